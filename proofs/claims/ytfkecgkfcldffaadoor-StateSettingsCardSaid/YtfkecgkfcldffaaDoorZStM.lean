/-
  The fixed fact of law19; a state that comes in; the laws StateCleans and StateSettings (gen_stm.py).
-/
import Derived.MakeChecks
import Derived.Test.YtfkecgkfcldffaaDoorRows
import Derived.Test.YtfkecgkfcldffaaDoorZLaid
import Derived.Test.YtfkecgkfcldffaaDoorZStL
import Derived.Test.YtfkecgkfcldffaaDoorZStJ
import Derived.Test.YtfkecgkfcldffaaDoorZStK
import Derived.Test.YtfkecgkfcldffaaDoorZFl
namespace Go.Proofs.YtfkecgkfcldffaaDoor
set_option linter.unusedSimpArgs false
set_option linter.unusedVariables false
open Go.ChangeShapes Go.WideShapes Go.RowKit
set_option linter.unusedVariables false

theorem tabT_met19 {w : World} {rest : List (String × DataW Unit)} (h : laidMet Tryd.prog (("internal/strconv.uint64pow10", Rows.laid_internal_strconv_uint64pow10) :: rest) w) : tabT w :=
  tabIs_head2 (g := 0) (by rfl) (by kernel_rfl) (by kernel_rfl) Tryd.underlying158 (by kernel_rfl) (by kernel_rfl) (by kernel_rfl) h
/-- What is known of a state that comes in: all but that its modes fit. -/
structure Cor.In (c : Cor) : Prop where
  ok : ∀ m, 0 ≤ m ∧ m < 4294967296 → ({ c with modes := m } : Cor).Ok
theorem i6w {x : Int} (h : -9223372036854775808 ≤ x ∧ x ≤ 9223372036854775807) : I6 x := h
set_option maxRecDepth 100000 in
theorem open_cor {H : Type} {enc : TypeId × Value → H} {w : World} {base b0 : Nat} {spare : Nat → Bool} {held : Bool} {r : Reach} {v : Value} {d : DataW H} {p : List MemPlace} {X : Prop}
    (hv : Value.okWide Tryd.prog w r b0 33 v) (h : DataW.Trod enc Tryd.prog w base spare held 33 v d p) (hs : X) : ∃ c : Cor, v = c.d ∧ c.In := by
  obtain ⟨cs, rfl, hsz⟩ := okWide_struct Tryd.underlying33 hv
  obtain ⟨l⟩ := cs
  have hC : Tryd.prog.cellsOf 33 = 29 := by kernel_rfl
  match l, hsz.trans hC with
  | [x0, x1, x2, x3, x4, x5, x6, x7, x8, x9, x10, x11, x12, x13, x14, x15, x16, x17, x18, x19, x20, x21, x22, x23, x24, x25, x26, x27, x28], _ =>
    obtain ⟨fuel, hf⟩ := h
    obtain ⟨y0, e0, n0, f0, g0⟩ := flat_at 8 _ 0 (some .i64) fuel _ _ (by kernel_rfl) hf
    obtain rfl : x0 = _ := (Option.some.inj e0).trans f0
    have g0 := bounds_i64 g0
    obtain ⟨y1, e1, n1, f1, g1⟩ := flat_at 8 _ 1 (some .i64) fuel _ _ (by kernel_rfl) hf
    obtain rfl : x1 = _ := (Option.some.inj e1).trans f1
    have g1 := bounds_i64 g1
    obtain ⟨y2, e2, n2, f2, g2⟩ := flat_at 8 _ 2 (some .u8) fuel _ _ (by kernel_rfl) hf
    obtain rfl : x2 = _ := (Option.some.inj e2).trans f2
    have g2 := bounds_u8 g2
    obtain ⟨y3, e3, n3, f3⟩ := flat_at 8 _ 3 none fuel _ _ (by kernel_rfl) hf
    obtain rfl : x3 = _ := (Option.some.inj e3).trans f3
    obtain ⟨y4, e4, n4, f4⟩ := flat_at 8 _ 4 none fuel _ _ (by kernel_rfl) hf
    obtain rfl : x4 = _ := (Option.some.inj e4).trans f4
    obtain ⟨y5, e5, n5, f5⟩ := flat_at 8 _ 5 none fuel _ _ (by kernel_rfl) hf
    obtain rfl : x5 = _ := (Option.some.inj e5).trans f5
    obtain ⟨y6, e6, n6, f6, g6⟩ := flat_at 8 _ 6 (some .i64) fuel _ _ (by kernel_rfl) hf
    obtain rfl : x6 = _ := (Option.some.inj e6).trans f6
    have g6 := bounds_i64 g6
    obtain ⟨y7, e7, n7, f7, g7⟩ := flat_at 8 _ 7 (some .i64) fuel _ _ (by kernel_rfl) hf
    obtain rfl : x7 = _ := (Option.some.inj e7).trans f7
    have g7 := bounds_i64 g7
    obtain ⟨y8, e8, n8, f8, g8⟩ := flat_at 8 _ 8 (some .i64) fuel _ _ (by kernel_rfl) hf
    obtain rfl : x8 = _ := (Option.some.inj e8).trans f8
    have g8 := bounds_i64 g8
    obtain ⟨y9, e9, n9, f9, g9⟩ := flat_at 8 _ 9 (some .i64) fuel _ _ (by kernel_rfl) hf
    obtain rfl : x9 = _ := (Option.some.inj e9).trans f9
    have g9 := bounds_i64 g9
    obtain ⟨y10, e10, n10, f10, g10⟩ := flat_at 8 _ 10 (some .i64) fuel _ _ (by kernel_rfl) hf
    obtain rfl : x10 = _ := (Option.some.inj e10).trans f10
    have g10 := bounds_i64 g10
    obtain ⟨y11, e11, n11, f11, g11⟩ := flat_at 8 _ 11 (some .i64) fuel _ _ (by kernel_rfl) hf
    obtain rfl : x11 = _ := (Option.some.inj e11).trans f11
    have g11 := bounds_i64 g11
    obtain ⟨y12, e12, n12, f12, g12⟩ := flat_at 8 _ 12 (some .i64) fuel _ _ (by kernel_rfl) hf
    obtain rfl : x12 = _ := (Option.some.inj e12).trans f12
    have g12 := bounds_i64 g12
    obtain ⟨y13, e13, n13, f13, g13⟩ := flat_at 8 _ 13 (some .i64) fuel _ _ (by kernel_rfl) hf
    obtain rfl : x13 = _ := (Option.some.inj e13).trans f13
    have g13 := bounds_i64 g13
    obtain ⟨y14, e14, n14, f14, g14⟩ := flat_at 8 _ 14 (some .i64) fuel _ _ (by kernel_rfl) hf
    obtain rfl : x14 = _ := (Option.some.inj e14).trans f14
    have g14 := bounds_i64 g14
    obtain ⟨y15, e15, n15, f15, g15⟩ := flat_at 8 _ 15 (some .i64) fuel _ _ (by kernel_rfl) hf
    obtain rfl : x15 = _ := (Option.some.inj e15).trans f15
    have g15 := bounds_i64 g15
    obtain ⟨y16, e16, n16, f16, g16⟩ := flat_at 8 _ 16 (some .i64) fuel _ _ (by kernel_rfl) hf
    obtain rfl : x16 = _ := (Option.some.inj e16).trans f16
    have g16 := bounds_i64 g16
    obtain ⟨y17, e17, n17, f17, g17⟩ := flat_at 8 _ 17 (some .i64) fuel _ _ (by kernel_rfl) hf
    obtain rfl : x17 = _ := (Option.some.inj e17).trans f17
    have g17 := bounds_i64 g17
    obtain ⟨y18, e18, n18, f18, g18⟩ := flat_at 8 _ 18 (some .i64) fuel _ _ (by kernel_rfl) hf
    obtain rfl : x18 = _ := (Option.some.inj e18).trans f18
    have g18 := bounds_i64 g18
    obtain ⟨y19, e19, n19, f19, g19⟩ := flat_at 8 _ 19 (some .i64) fuel _ _ (by kernel_rfl) hf
    obtain rfl : x19 = _ := (Option.some.inj e19).trans f19
    have g19 := bounds_i64 g19
    obtain ⟨y20, e20, n20, f20, g20⟩ := flat_at 8 _ 20 (some .i64) fuel _ _ (by kernel_rfl) hf
    obtain rfl : x20 = _ := (Option.some.inj e20).trans f20
    have g20 := bounds_i64 g20
    obtain ⟨y21, e21, n21, f21, g21⟩ := flat_at 8 _ 21 (some .i64) fuel _ _ (by kernel_rfl) hf
    obtain rfl : x21 = _ := (Option.some.inj e21).trans f21
    have g21 := bounds_i64 g21
    obtain ⟨y22, e22, n22, f22, g22⟩ := flat_at 8 _ 22 (some .i64) fuel _ _ (by kernel_rfl) hf
    obtain rfl : x22 = _ := (Option.some.inj e22).trans f22
    have g22 := bounds_i64 g22
    obtain ⟨y23, e23, n23, f23⟩ := flat_at 8 _ 23 none fuel _ _ (by kernel_rfl) hf
    obtain rfl : x23 = _ := (Option.some.inj e23).trans f23
    obtain ⟨y24, e24, n24, f24⟩ := flat_at 8 _ 24 none fuel _ _ (by kernel_rfl) hf
    obtain rfl : x24 = _ := (Option.some.inj e24).trans f24
    obtain ⟨y25, e25, n25, f25, g25⟩ := flat_at 8 _ 25 (some .i64) fuel _ _ (by kernel_rfl) hf
    obtain rfl : x25 = _ := (Option.some.inj e25).trans f25
    have g25 := bounds_i64 g25
    obtain ⟨y26, e26, n26, f26⟩ := flat_at 8 _ 26 none fuel _ _ (by kernel_rfl) hf
    obtain rfl : x26 = _ := (Option.some.inj e26).trans f26
    obtain ⟨y27, e27, n27, f27, g27⟩ := flat_at 8 _ 27 (some .i64) fuel _ _ (by kernel_rfl) hf
    obtain rfl : x27 = _ := (Option.some.inj e27).trans f27
    have g27 := bounds_i64 g27
    obtain ⟨y28, e28, n28, f28, g28⟩ := flat_at 8 _ 28 (some .i64) fuel _ _ (by kernel_rfl) hf
    obtain rfl : x28 = _ := (Option.some.inj e28).trans f28
    have g28 := bounds_i64 g28
    refine ⟨⟨n0, n1, n2, n3, n4, n5, n6, n7, n8, n9, n10, n11, n12, n13, n14, n15, n16, n17, n18, n19, n20, n21, n22, n23, n24, n25, n26, n27, n28⟩, rfl, ⟨fun m hm => ?_⟩⟩
    exact ⟨i6w g0, i6w g1, by simpa using (by omega : 0 ≤ n2 ∧ n2 < 256), ⟨i6w g6, i6w g7, i6w g8, i6w g9⟩, i6w g10, i6w g11, i6w g12, ⟨i6w g13, i6w g14, i6w g15, i6w g16⟩, ⟨i6w g17, i6w g18, i6w g19, i6w g20⟩, hm, i6w g22, i6w g25, i6w g27, i6w g28⟩
theorem new_ok0 : (newC 24 80 3).Ok := newC_ok 24 80 3 (by unfold I6; omega) (by unfold I6; omega) (by unfold I6; omega)
theorem new_num0 : ∀ n ∈ (newC 24 80 3).clean.nums, 0 ≤ n ∧ n ≤ 65535 := by decide +kernel
theorem aw_cur : seqB (curS (newC 24 80 3)) ⟨#[49, 59, 49, 59, 49, 59, 64, 59, 64, 59, 64, 59, 48, 59, 50, 59, 64, 59, 66, 66, 37, 53, 37, 53]⟩ = true := by decide +kernel
theorem aw_rep : seqB (strOf (fmtGo (newC 24 80 3).clean.nums)) ⟨#[53, 59, 48, 59, 48, 59, 50, 57, 52, 56, 59, 48, 59, 48, 59, 48, 59, 48, 59, 48, 59, 50, 52, 59, 56, 48, 59, 48]⟩ = true := by decide +kernel
theorem aw_set : seqB (setS (newC 24 80 3) ⟨#[114]⟩) ⟨#[49, 59, 50, 52, 114]⟩ = true ∧ setK (newC 24 80 3) ⟨#[114]⟩ = true := by decide +kernel
set_option maxRecDepth 100000 in
set_option maxHeartbeats 4000000 in
theorem awake_19 (w : World) (hT : tabT w) : Calls Tryd.prog 6 #[] w fun e w' => e = .returned (.bool true) ∧ Gr w w' := by
  refine calls_sx (n := 25) (args := []) Tryd.func6 rfl rfl rfl ?_
  have hs0 := SH.none w
  refine CW.seq ?_
  refine CW.region ?_
  refine SL.v (.bool false) ?_
  refine SL.nil ?_
  refine CW.seq ?_
  refine CW.region ?_
  refine SL.call (f := 12) (args := #[.int .i64 24, .int .i64 80, .int .i64 3]) (w1 := w) rfl rfl (by kernel_rfl) (snew_any 24 80 3 w) ?_
  rintro x w_1 ⟨rfl, hc_2⟩
  refine ⟨.agg (cvA (newC 24 80 3)), rfl, ?_⟩
  have hs_3 := hs0.grow hc_2
  refine SL.newH (mk := fun g => .pointer (some ⟨g, 0, none⟩)) (C := #[.int .i64 0, .int .i64 0, .int .u8 0, .bool false, .bool false, .bool false, .int .i64 0, .int .i64 0, .int .i64 0, .int .i64 0, .int .i64 0, .int .i64 0, .int .i64 0, .int .i64 0, .int .i64 0, .int .i64 0, .int .i64 0, .int .i64 0, .int .i64 0, .int .i64 0, .int .i64 0, .int .u32 0, .int .i64 0, .bool false, .bool false, .int .i64 0, .bool false, .int .i64 0, .int .i64 0]) (T := 46) hs_3 rfl rfl (by kernel_rfl) (fun g_4 w_5 hs_6 => ?_)
  have hs_6 : SH [] w w_5 [pt g_4 #[.int .i64 0, .int .i64 0, .int .u8 0, .bool false, .bool false, .bool false, .int .i64 0, .int .i64 0, .int .i64 0, .int .i64 0, .int .i64 0, .int .i64 0, .int .i64 0, .int .i64 0, .int .i64 0, .int .i64 0, .int .i64 0, .int .i64 0, .int .i64 0, .int .i64 0, .int .i64 0, .int .u32 0, .int .i64 0, .bool false, .bool false, .int .i64 0, .bool false, .int .i64 0, .int .i64 0] 46] := hs_6
  refine SL.storeH (i := 0) (g := g_4) (off := 0) (v := .agg (cvA (newC 24 80 3))) (C' := (cvA (newC 24 80 3))) (L' := [pt g_4 (cvA (newC 24 80 3)) 46]) hs_6 rfl rfl rfl (by kernel_rfl) (by kernel_rfl) rfl (by kernel_rfl) (by kernel_rfl) rfl (by kernel_rfl) (by kernel_rfl) (fun w_7 hs_8 => ?_)
  refine SL.nil ?_
  refine CW.seq ?_
  refine CW.region ?_
  refine SL.load (g := g_4) (off := 0) (v := .agg (cvA (newC 24 80 3))) rfl rfl rfl (by kernel_rfl) (hs_8.pt_at (i := 0) rfl) (by kernel_rfl) ?_
  refine SL.call (f := 14) (args := #[.agg (cvA (newC 24 80 3)), .string ⟨#[114]⟩]) (w1 := w_7) rfl rfl (by kernel_rfl) (set_any (newC 24 80 3) ⟨#[114]⟩ w_7 new_ok0 (hT.gr hs_8.gr)) ?_
  rintro x w_9 ⟨rfl, hc_10⟩
  refine ⟨.tuple #[.string (setS (newC 24 80 3) ⟨#[114]⟩), .bool (setK (newC 24 80 3) ⟨#[114]⟩)], rfl, ?_⟩
  have hs_11 := hs_8.grow hc_10
  refine SL.v (.tuple #[.string (setS (newC 24 80 3) ⟨#[114]⟩), .bool (setK (newC 24 80 3) ⟨#[114]⟩)]) ?_
  refine SL.v (.string (setS (newC 24 80 3) ⟨#[114]⟩)) ?_
  refine SL.v (.bool (setK (newC 24 80 3) ⟨#[114]⟩)) ?_
  refine SL.v (.string (setS (newC 24 80 3) ⟨#[114]⟩)) ?_
  refine SL.v (.bool (setK (newC 24 80 3) ⟨#[114]⟩)) ?_
  refine SL.nil ?_
  refine CW.seq ?_
  refine CW.region ?_
  refine SL.load (g := g_4) (off := 0) (v := .agg (cvA (newC 24 80 3))) rfl rfl rfl (by kernel_rfl) (hs_11.pt_at (i := 0) rfl) (by kernel_rfl) ?_
  refine SL.call (f := 20) (args := #[.agg (cvA (newC 24 80 3))]) (w1 := w_9) rfl rfl (by kernel_rfl) (cur_any (newC 24 80 3) w_9 new_ok0 (hT.gr hs_11.gr)) ?_
  rintro x w_12 ⟨rfl, hc_13⟩
  refine ⟨.string (curS (newC 24 80 3)), rfl, ?_⟩
  have hs_14 := hs_11.grow hc_13
  refine SL.val (v := .bool (seqB (curS (newC 24 80 3)) ⟨#[49, 59, 49, 59, 49, 59, 64, 59, 64, 59, 64, 59, 48, 59, 50, 59, 64, 59, 66, 66, 37, 53, 37, 53]⟩)) (w' := w_12) rfl rfl (run_streqB (a := curS (newC 24 80 3)) (b := ⟨#[49, 59, 49, 59, 49, 59, 64, 59, 64, 59, 64, 59, 48, 59, 50, 59, 64, 59, 66, 66, 37, 53, 37, 53]⟩) (c := seqB (curS (newC 24 80 3)) ⟨#[49, 59, 49, 59, 49, 59, 64, 59, 64, 59, 64, 59, 48, 59, 50, 59, 64, 59, 66, 66, 37, 53, 37, 53]⟩) rfl (by kernel_rfl) (by kernel_rfl) rfl) ?_
  refine SL.v (.bool (seqB (curS (newC 24 80 3)) ⟨#[49, 59, 49, 59, 49, 59, 64, 59, 64, 59, 64, 59, 48, 59, 50, 59, 64, 59, 66, 66, 37, 53, 37, 53]⟩)) ?_
  have hb_15 : (seqB (curS (newC 24 80 3)) ⟨#[49, 59, 49, 59, 49, 59, 64, 59, 64, 59, 64, 59, 48, 59, 50, 59, 64, 59, 66, 66, 37, 53, 37, 53]⟩) = true := aw_cur
  rw [hb_15]
  refine SL.on rfl rfl (by kernel_rfl) ?_
  refine SL.load (g := g_4) (off := 0) (v := .agg (cvA (newC 24 80 3))) rfl rfl rfl (by kernel_rfl) (hs_14.pt_at (i := 0) rfl) (by kernel_rfl) ?_
  refine SL.on rfl rfl (by kernel_rfl) ?_
  refine SL.call (f := 16) (args := #[.agg (cvA (newC 24 80 3))]) (w1 := w_12) rfl rfl (by kernel_rfl) (rep_any (newC 24 80 3) w_12 new_ok0 (hT.gr hs_14.gr) new_num0) ?_
  rintro x w_16 ⟨rfl, hc_17⟩
  refine ⟨.string (strOf (fmtGo (newC 24 80 3).clean.nums)), rfl, ?_⟩
  have hs_18 := hs_14.grow hc_17
  refine SL.on rfl rfl (by kernel_rfl) ?_
  refine SL.val (v := .bool (seqB (strOf (fmtGo (newC 24 80 3).clean.nums)) ⟨#[53, 59, 48, 59, 48, 59, 50, 57, 52, 56, 59, 48, 59, 48, 59, 48, 59, 48, 59, 48, 59, 50, 52, 59, 56, 48, 59, 48]⟩)) (w' := w_16) rfl rfl (run_streqB (a := strOf (fmtGo (newC 24 80 3).clean.nums)) (b := ⟨#[53, 59, 48, 59, 48, 59, 50, 57, 52, 56, 59, 48, 59, 48, 59, 48, 59, 48, 59, 48, 59, 50, 52, 59, 56, 48, 59, 48]⟩) (c := seqB (strOf (fmtGo (newC 24 80 3).clean.nums)) ⟨#[53, 59, 48, 59, 48, 59, 50, 57, 52, 56, 59, 48, 59, 48, 59, 48, 59, 48, 59, 48, 59, 50, 52, 59, 56, 48, 59, 48]⟩) rfl (by kernel_rfl) (by kernel_rfl) rfl) ?_
  refine SL.v (.bool (seqB (strOf (fmtGo (newC 24 80 3).clean.nums)) ⟨#[53, 59, 48, 59, 48, 59, 50, 57, 52, 56, 59, 48, 59, 48, 59, 48, 59, 48, 59, 48, 59, 50, 52, 59, 56, 48, 59, 48]⟩)) ?_
  refine SL.v (.bool (seqB (strOf (fmtGo (newC 24 80 3).clean.nums)) ⟨#[53, 59, 48, 59, 48, 59, 50, 57, 52, 56, 59, 48, 59, 48, 59, 48, 59, 48, 59, 48, 59, 50, 52, 59, 56, 48, 59, 48]⟩)) ?_
  have hb_19 : (seqB (strOf (fmtGo (newC 24 80 3).clean.nums)) ⟨#[53, 59, 48, 59, 48, 59, 50, 57, 52, 56, 59, 48, 59, 48, 59, 48, 59, 48, 59, 48, 59, 50, 52, 59, 56, 48, 59, 48]⟩) = true := aw_rep
  rw [hb_19]
  refine SL.on rfl rfl (by kernel_rfl) ?_
  refine SL.v (.bool (setK (newC 24 80 3) ⟨#[114]⟩)) ?_
  refine SL.v (.bool (setK (newC 24 80 3) ⟨#[114]⟩)) ?_
  refine SL.v (.bool (setK (newC 24 80 3) ⟨#[114]⟩)) ?_
  have hb_20 : (setK (newC 24 80 3) ⟨#[114]⟩) = true := aw_set.2
  rw [hb_20]
  refine SL.on rfl rfl (by kernel_rfl) ?_
  refine SL.v (.string (setS (newC 24 80 3) ⟨#[114]⟩)) ?_
  refine SL.on rfl rfl (by kernel_rfl) ?_
  refine SL.val (v := .bool (seqB (setS (newC 24 80 3) ⟨#[114]⟩) ⟨#[49, 59, 50, 52, 114]⟩)) (w' := w_16) rfl rfl (run_streqB (a := setS (newC 24 80 3) ⟨#[114]⟩) (b := ⟨#[49, 59, 50, 52, 114]⟩) (c := seqB (setS (newC 24 80 3) ⟨#[114]⟩) ⟨#[49, 59, 50, 52, 114]⟩) rfl (by kernel_rfl) (by kernel_rfl) rfl) ?_
  refine SL.v (.bool (seqB (setS (newC 24 80 3) ⟨#[114]⟩) ⟨#[49, 59, 50, 52, 114]⟩)) ?_
  refine SL.v (.bool (seqB (setS (newC 24 80 3) ⟨#[114]⟩) ⟨#[49, 59, 50, 52, 114]⟩)) ?_
  refine SL.nil ?_
  refine CW.ret ?_
  repeat with_reducible first | refine PThen.ret ?_ | refine PBlock.ret ?_
  refine PRet.tmp (t := 0) (v := .bool (seqB (setS (newC 24 80 3) ⟨#[114]⟩) ⟨#[49, 59, 50, 52, 114]⟩)) rfl rfl (by kernel_rfl) ?_
  exact ⟨by rw [aw_set.1], hs_18.gr⟩
set_option maxRecDepth 100000 in
set_option maxHeartbeats 4000000 in
theorem sett_yes (c : Cor) (id : ByteArray) (w : World) (hT : tabT w) (hok : c.Ok) (hsm : smallZ c = true) : Calls Tryd.prog 4 #[.agg (cdA c), .string id] w fun e w' => e = .returned (.bool true) ∧ Gr w w' := by
  have hm := hok.modes
  refine calls_sx (n := 45) (args := [.agg (cdA c), .string id]) Tryd.func4 rfl rfl rfl ?_
  have hs0 := SH.none w
  refine CW.seq ?_
  refine CW.region ?_
  refine SL.newH (mk := fun g => .pointer (some ⟨g, 0, none⟩)) (C := (cdA c)) (T := 33) hs0 rfl rfl (by kernel_rfl) (fun g_1 w_2 hs_3 => ?_)
  have hs_3 : SH [] w w_2 [pt g_1 (cdA c) 33] := hs_3
  refine SL.v (.bool false) ?_
  refine SL.nil ?_
  refine CW.seq ?_
  refine CW.seq ?_
  refine CW.region ?_
  refine SL.call (f := 6) (args := #[]) (w1 := w_2) rfl rfl (by kernel_rfl) (awake_19 w_2 (hT.gr hs_3.gr)) ?_
  rintro x w_4 ⟨rfl, hc_5⟩
  refine ⟨.bool true, rfl, ?_⟩
  have hs_6 := hs_3.grow hc_5
  refine SL.v (.bool false) ?_
  refine SL.nil ?_
  refine CW.cond_false (by kernel_rfl) ?_
  refine CW.skip ?_
  refine CW.seq ?_
  refine CW.seq ?_
  refine CW.region ?_
  refine SL.load (g := g_1) (off := 0) (v := .agg (cdA c)) rfl rfl rfl (by kernel_rfl) (hs_6.pt_at (i := 0) rfl) (by kernel_rfl) ?_
  refine SL.call (f := 7) (args := #[.agg (cdA c)]) (w1 := w_4) rfl rfl (by kernel_rfl) (hsm ▸ small_any c w_4) ?_
  rintro x w_7 ⟨rfl, hc_8⟩
  refine ⟨.bool true, rfl, ?_⟩
  have hs_9 := hs_6.grow hc_8
  refine SL.v (.bool false) ?_
  refine SL.nil ?_
  refine CW.cond_false (by kernel_rfl) ?_
  refine CW.skip ?_
  refine CW.seq ?_
  refine CW.seq ?_
  refine CW.region ?_
  refine SL.v (.string id) ?_
  refine SL.newH (mk := fun g => .slice (some ⟨g, 0, none⟩) 11 11) (C := #[.string id, .string ⟨#[109]⟩, .string ⟨#[114]⟩, .string ⟨#[115]⟩, .string ⟨#[34, 113]⟩, .string ⟨#[34, 112]⟩, .string ⟨#[42, 120]⟩, .string ⟨#[116]⟩, .string ⟨#[36, 124]⟩, .string ⟨#[36, 126]⟩, .string ⟨#[36, 125]⟩]) (T := 9) hs_9 rfl rfl (by kernel_rfl) (fun g_10 w_11 hs_12 => ?_)
  have hs_12 : SH [] w w_11 [pt g_1 (cdA c) 33, pt g_10 #[.string id, .string ⟨#[109]⟩, .string ⟨#[114]⟩, .string ⟨#[115]⟩, .string ⟨#[34, 113]⟩, .string ⟨#[34, 112]⟩, .string ⟨#[42, 120]⟩, .string ⟨#[116]⟩, .string ⟨#[36, 124]⟩, .string ⟨#[36, 126]⟩, .string ⟨#[36, 125]⟩] 9] := hs_12
  refine SL.val (v := .int .i64 11) (w' := w_11) rfl rfl (by kernel_rfl) ?_
  refine SL.v (.int .i64 0) ?_
  refine SL.nil ?_
  refine CW.block ?_
  refine CW.loopN 12 ?_
  refine CR.more ?_
  refine CW.seq ?_
  refine CW.region ?_
  refine SL.v (.bool true) ?_
  refine SL.nil ?_
  refine CW.seq ?_
  refine CW.cond_true (by kernel_rfl) ?_
  refine CW.skip ?_
  refine CW.seq ?_
  refine CW.block ?_
  refine CW.seq ?_
  refine CW.region ?_
  refine SL.v (.pointer (some ⟨g_10, 0, none⟩)) ?_
  refine SL.load (g := g_10) (off := 0) (v := .string id) rfl rfl rfl (by kernel_rfl) (hs_12.pt_at (i := 1) rfl) (by kernel_rfl) ?_
  refine SL.v (.string id) ?_
  refine SL.nil ?_
  refine CW.seq ?_
  refine CW.region ?_
  refine SL.load (g := g_1) (off := 0) (v := .agg (cdA c)) rfl rfl rfl (by kernel_rfl) (hs_12.pt_at (i := 0) rfl) (by kernel_rfl) ?_
  refine SL.call (f := 9) (args := #[.agg (cdA c)]) (w1 := w_11) rfl rfl (by kernel_rfl) (own19 c w_11 hm) ?_
  rintro x w_13 ⟨rfl, hc_14⟩
  refine ⟨.agg (cvA c), rfl, ?_⟩
  have hs_15 := hs_12.grow hc_14
  refine SL.v (.string id) ?_
  refine SL.call (f := 14) (args := #[.agg (cvA c), .string id]) (w1 := w_13) rfl rfl (by kernel_rfl) (set_any c id w_13 hok (hT.gr hs_15.gr)) ?_
  rintro x w_16 ⟨rfl, hc_17⟩
  refine ⟨.tuple #[.string (setS c id), .bool (setK c id)], rfl, ?_⟩
  have hs_18 := hs_15.grow hc_17
  refine SL.v (.tuple #[.string (setS c id), .bool (setK c id)]) ?_
  refine SL.v (.string (setS c id)) ?_
  refine SL.v (.bool (setK c id)) ?_
  refine SL.v (.string (setS c id)) ?_
  refine SL.v (.bool (setK c id)) ?_
  refine SL.nil ?_
  refine CW.seq ?_
  refine CW.region ?_
  refine SL.load (g := g_1) (off := 0) (v := .agg (cdA c)) rfl rfl rfl (by kernel_rfl) (hs_18.pt_at (i := 0) rfl) (by kernel_rfl) ?_
  refine SL.v (.string id) ?_
  refine SL.call (f := 15) (args := #[.agg (cdA c), .string id]) (w1 := w_16) rfl rfl (by kernel_rfl) (rset_any c id w_16 hok (hT.gr hs_18.gr)) ?_
  rintro x w_19 ⟨rfl, hc_20⟩
  refine ⟨.tuple #[.string (setS c id), .bool (setK c id)], rfl, ?_⟩
  have hs_21 := hs_18.grow hc_20
  refine SL.v (.tuple #[.string (setS c id), .bool (setK c id)]) ?_
  refine SL.v (.string (setS c id)) ?_
  refine SL.v (.bool (setK c id)) ?_
  refine SL.v (.string (setS c id)) ?_
  refine SL.v (.bool (setK c id)) ?_
  refine SL.nil ?_
  refine CW.seq ?_
  refine CW.region ?_
  refine SL.v (.string (setS c id)) ?_
  refine SL.v (.string (setS c id)) ?_
  refine SL.val (v := .bool false) (w' := w_19) rfl rfl (run_strneB (a := setS c id) (b := setS c id) (c := true) rfl (by kernel_rfl) (by kernel_rfl) (seqB_self _)) ?_
  refine SL.v (.bool false) ?_
  refine SL.on rfl rfl (by kernel_rfl) ?_
  refine SL.v (.bool (setK c id)) ?_
  refine SL.on rfl rfl (by kernel_rfl) ?_
  refine SL.v (.bool (setK c id)) ?_
  refine SL.on rfl rfl (by kernel_rfl) ?_
  refine SL.val (v := .bool false) (w' := w_19) rfl rfl (run_boolne (a := setK c id) (b := setK c id) (c := false) rfl (by kernel_rfl) (by kernel_rfl) (by kernel_rfl) (by cases (setK c id) <;> rfl)) ?_
  refine SL.v (.bool false) ?_
  refine SL.nil ?_
  refine CW.cond_false (by kernel_rfl) ?_
  refine CW.skip ?_
  refine CW.region ?_
  refine SL.v (.int .i64 1) ?_
  refine SL.v (.int .i64 1) ?_
  refine SL.nil ?_
  refine CR.fresh (fun e9 => e9 0 = .agg (cdA c) ∧ e9 1 = .string id ∧ e9 2 = .pointer (some ⟨g_1, 0, none⟩) ∧ e9 4 = .bool false ∧ e9 11 = .bool true ∧ e9 12 = .bool false ∧ e9 13 = .agg (cdA c) ∧ e9 14 = .bool true ∧ e9 15 = .bool false ∧ e9 16 = .string id ∧ e9 17 = .slice (some ⟨g_10, 0, none⟩) 11 11 ∧ e9 18 = .int .i64 11 ∧ e9 19 = .int .i64 1) ⟨(by kernel_rfl), (by kernel_rfl), (by kernel_rfl), (by kernel_rfl), (by kernel_rfl), (by kernel_rfl), (by kernel_rfl), (by kernel_rfl), (by kernel_rfl), (by kernel_rfl), (by kernel_rfl), (by kernel_rfl), (by kernel_rfl)⟩ ?_
  rintro e_22 ⟨hv_24, hv_25, hv_26, hv_27, hv_28, hv_29, hv_30, hv_31, hv_32, hv_33, hv_34, hv_35, hv_36⟩
  obtain ⟨e_23, rfl⟩ : ∃ e_23, e_22 = put1 (put1 (put1 (put1 (put1 (put1 (put1 (put1 (put1 (put1 (put1 (put1 (put1 e_23 0 (.agg (cdA c))) 1 (.string id)) 2 (.pointer (some ⟨g_1, 0, none⟩))) 4 (.bool false)) 11 (.bool true)) 12 (.bool false)) 13 (.agg (cdA c))) 14 (.bool true)) 15 (.bool false)) 16 (.string id)) 17 (.slice (some ⟨g_10, 0, none⟩) 11 11)) 18 (.int .i64 11)) 19 (.int .i64 1) := ⟨e_22, (put_self hv_36).trans (congrArg (fun z => put1 z 19 (.int .i64 1)) ((put_self hv_35).trans (congrArg (fun z => put1 z 18 (.int .i64 11)) ((put_self hv_34).trans (congrArg (fun z => put1 z 17 (.slice (some ⟨g_10, 0, none⟩) 11 11)) ((put_self hv_33).trans (congrArg (fun z => put1 z 16 (.string id)) ((put_self hv_32).trans (congrArg (fun z => put1 z 15 (.bool false)) ((put_self hv_31).trans (congrArg (fun z => put1 z 14 (.bool true)) ((put_self hv_30).trans (congrArg (fun z => put1 z 13 (.agg (cdA c))) ((put_self hv_29).trans (congrArg (fun z => put1 z 12 (.bool false)) ((put_self hv_28).trans (congrArg (fun z => put1 z 11 (.bool true)) ((put_self hv_27).trans (congrArg (fun z => put1 z 4 (.bool false)) ((put_self hv_26).trans (congrArg (fun z => put1 z 2 (.pointer (some ⟨g_1, 0, none⟩))) ((put_self hv_25).trans (congrArg (fun z => put1 z 1 (.string id)) (put_self hv_24))))))))))))))))))))))))⟩
  clear hv_24 hv_25 hv_26 hv_27 hv_28 hv_29 hv_30 hv_31 hv_32 hv_33 hv_34 hv_35 hv_36
  refine CR.more ?_
  refine CW.seq ?_
  refine CW.region ?_
  refine SL.v (.bool true) ?_
  refine SL.nil ?_
  refine CW.seq ?_
  refine CW.cond_true (by kernel_rfl) ?_
  refine CW.skip ?_
  refine CW.seq ?_
  refine CW.block ?_
  refine CW.seq ?_
  refine CW.region ?_
  refine SL.v (.pointer (some ⟨g_10, 1, none⟩)) ?_
  refine SL.load (g := g_10) (off := 1) (v := .string ⟨#[109]⟩) rfl rfl rfl (by kernel_rfl) (hs_21.pt_at (i := 1) rfl) (by kernel_rfl) ?_
  refine SL.v (.string ⟨#[109]⟩) ?_
  refine SL.nil ?_
  refine CW.seq ?_
  refine CW.region ?_
  refine SL.load (g := g_1) (off := 0) (v := .agg (cdA c)) rfl rfl rfl (by kernel_rfl) (hs_21.pt_at (i := 0) rfl) (by kernel_rfl) ?_
  refine SL.call (f := 9) (args := #[.agg (cdA c)]) (w1 := w_19) rfl rfl (by kernel_rfl) (own19 c w_19 hm) ?_
  rintro x w_37 ⟨rfl, hc_38⟩
  refine ⟨.agg (cvA c), rfl, ?_⟩
  have hs_39 := hs_21.grow hc_38
  refine SL.v (.string ⟨#[109]⟩) ?_
  refine SL.call (f := 14) (args := #[.agg (cvA c), .string ⟨#[109]⟩]) (w1 := w_37) rfl rfl (by kernel_rfl) (set_any c ⟨#[109]⟩ w_37 hok (hT.gr hs_39.gr)) ?_
  rintro x w_40 ⟨rfl, hc_41⟩
  refine ⟨.tuple #[.string (setS c ⟨#[109]⟩), .bool (setK c ⟨#[109]⟩)], rfl, ?_⟩
  have hs_42 := hs_39.grow hc_41
  refine SL.v (.tuple #[.string (setS c ⟨#[109]⟩), .bool (setK c ⟨#[109]⟩)]) ?_
  refine SL.v (.string (setS c ⟨#[109]⟩)) ?_
  refine SL.v (.bool (setK c ⟨#[109]⟩)) ?_
  refine SL.v (.string (setS c ⟨#[109]⟩)) ?_
  refine SL.v (.bool (setK c ⟨#[109]⟩)) ?_
  refine SL.nil ?_
  refine CW.seq ?_
  refine CW.region ?_
  refine SL.load (g := g_1) (off := 0) (v := .agg (cdA c)) rfl rfl rfl (by kernel_rfl) (hs_42.pt_at (i := 0) rfl) (by kernel_rfl) ?_
  refine SL.v (.string ⟨#[109]⟩) ?_
  refine SL.call (f := 15) (args := #[.agg (cdA c), .string ⟨#[109]⟩]) (w1 := w_40) rfl rfl (by kernel_rfl) (rset_any c ⟨#[109]⟩ w_40 hok (hT.gr hs_42.gr)) ?_
  rintro x w_43 ⟨rfl, hc_44⟩
  refine ⟨.tuple #[.string (setS c ⟨#[109]⟩), .bool (setK c ⟨#[109]⟩)], rfl, ?_⟩
  have hs_45 := hs_42.grow hc_44
  refine SL.v (.tuple #[.string (setS c ⟨#[109]⟩), .bool (setK c ⟨#[109]⟩)]) ?_
  refine SL.v (.string (setS c ⟨#[109]⟩)) ?_
  refine SL.v (.bool (setK c ⟨#[109]⟩)) ?_
  refine SL.v (.string (setS c ⟨#[109]⟩)) ?_
  refine SL.v (.bool (setK c ⟨#[109]⟩)) ?_
  refine SL.nil ?_
  refine CW.seq ?_
  refine CW.region ?_
  refine SL.v (.string (setS c ⟨#[109]⟩)) ?_
  refine SL.v (.string (setS c ⟨#[109]⟩)) ?_
  refine SL.val (v := .bool false) (w' := w_43) rfl rfl (run_strneB (a := setS c ⟨#[109]⟩) (b := setS c ⟨#[109]⟩) (c := true) rfl (by kernel_rfl) (by kernel_rfl) (seqB_self _)) ?_
  refine SL.v (.bool false) ?_
  refine SL.on rfl rfl (by kernel_rfl) ?_
  refine SL.v (.bool (setK c ⟨#[109]⟩)) ?_
  refine SL.on rfl rfl (by kernel_rfl) ?_
  refine SL.v (.bool (setK c ⟨#[109]⟩)) ?_
  refine SL.on rfl rfl (by kernel_rfl) ?_
  refine SL.val (v := .bool false) (w' := w_43) rfl rfl (run_boolne (a := setK c ⟨#[109]⟩) (b := setK c ⟨#[109]⟩) (c := false) rfl (by kernel_rfl) (by kernel_rfl) (by kernel_rfl) (by cases (setK c ⟨#[109]⟩) <;> rfl)) ?_
  refine SL.v (.bool false) ?_
  refine SL.nil ?_
  refine CW.cond_false (by kernel_rfl) ?_
  refine CW.skip ?_
  refine CW.region ?_
  refine SL.v (.int .i64 2) ?_
  refine SL.v (.int .i64 2) ?_
  refine SL.nil ?_
  refine CR.fresh (fun e9 => e9 0 = .agg (cdA c) ∧ e9 1 = .string id ∧ e9 2 = .pointer (some ⟨g_1, 0, none⟩) ∧ e9 4 = .bool false ∧ e9 11 = .bool true ∧ e9 12 = .bool false ∧ e9 13 = .agg (cdA c) ∧ e9 14 = .bool true ∧ e9 15 = .bool false ∧ e9 16 = .string id ∧ e9 17 = .slice (some ⟨g_10, 0, none⟩) 11 11 ∧ e9 18 = .int .i64 11 ∧ e9 19 = .int .i64 2) ⟨(by kernel_rfl), (by kernel_rfl), (by kernel_rfl), (by kernel_rfl), (by kernel_rfl), (by kernel_rfl), (by kernel_rfl), (by kernel_rfl), (by kernel_rfl), (by kernel_rfl), (by kernel_rfl), (by kernel_rfl), (by kernel_rfl)⟩ ?_
  rintro e_46 ⟨hv_48, hv_49, hv_50, hv_51, hv_52, hv_53, hv_54, hv_55, hv_56, hv_57, hv_58, hv_59, hv_60⟩
  obtain ⟨e_47, rfl⟩ : ∃ e_47, e_46 = put1 (put1 (put1 (put1 (put1 (put1 (put1 (put1 (put1 (put1 (put1 (put1 (put1 e_47 0 (.agg (cdA c))) 1 (.string id)) 2 (.pointer (some ⟨g_1, 0, none⟩))) 4 (.bool false)) 11 (.bool true)) 12 (.bool false)) 13 (.agg (cdA c))) 14 (.bool true)) 15 (.bool false)) 16 (.string id)) 17 (.slice (some ⟨g_10, 0, none⟩) 11 11)) 18 (.int .i64 11)) 19 (.int .i64 2) := ⟨e_46, (put_self hv_60).trans (congrArg (fun z => put1 z 19 (.int .i64 2)) ((put_self hv_59).trans (congrArg (fun z => put1 z 18 (.int .i64 11)) ((put_self hv_58).trans (congrArg (fun z => put1 z 17 (.slice (some ⟨g_10, 0, none⟩) 11 11)) ((put_self hv_57).trans (congrArg (fun z => put1 z 16 (.string id)) ((put_self hv_56).trans (congrArg (fun z => put1 z 15 (.bool false)) ((put_self hv_55).trans (congrArg (fun z => put1 z 14 (.bool true)) ((put_self hv_54).trans (congrArg (fun z => put1 z 13 (.agg (cdA c))) ((put_self hv_53).trans (congrArg (fun z => put1 z 12 (.bool false)) ((put_self hv_52).trans (congrArg (fun z => put1 z 11 (.bool true)) ((put_self hv_51).trans (congrArg (fun z => put1 z 4 (.bool false)) ((put_self hv_50).trans (congrArg (fun z => put1 z 2 (.pointer (some ⟨g_1, 0, none⟩))) ((put_self hv_49).trans (congrArg (fun z => put1 z 1 (.string id)) (put_self hv_48))))))))))))))))))))))))⟩
  clear hv_48 hv_49 hv_50 hv_51 hv_52 hv_53 hv_54 hv_55 hv_56 hv_57 hv_58 hv_59 hv_60
  refine CR.more ?_
  refine CW.seq ?_
  refine CW.region ?_
  refine SL.v (.bool true) ?_
  refine SL.nil ?_
  refine CW.seq ?_
  refine CW.cond_true (by kernel_rfl) ?_
  refine CW.skip ?_
  refine CW.seq ?_
  refine CW.block ?_
  refine CW.seq ?_
  refine CW.region ?_
  refine SL.v (.pointer (some ⟨g_10, 2, none⟩)) ?_
  refine SL.load (g := g_10) (off := 2) (v := .string ⟨#[114]⟩) rfl rfl rfl (by kernel_rfl) (hs_45.pt_at (i := 1) rfl) (by kernel_rfl) ?_
  refine SL.v (.string ⟨#[114]⟩) ?_
  refine SL.nil ?_
  refine CW.seq ?_
  refine CW.region ?_
  refine SL.load (g := g_1) (off := 0) (v := .agg (cdA c)) rfl rfl rfl (by kernel_rfl) (hs_45.pt_at (i := 0) rfl) (by kernel_rfl) ?_
  refine SL.call (f := 9) (args := #[.agg (cdA c)]) (w1 := w_43) rfl rfl (by kernel_rfl) (own19 c w_43 hm) ?_
  rintro x w_61 ⟨rfl, hc_62⟩
  refine ⟨.agg (cvA c), rfl, ?_⟩
  have hs_63 := hs_45.grow hc_62
  refine SL.v (.string ⟨#[114]⟩) ?_
  refine SL.call (f := 14) (args := #[.agg (cvA c), .string ⟨#[114]⟩]) (w1 := w_61) rfl rfl (by kernel_rfl) (set_any c ⟨#[114]⟩ w_61 hok (hT.gr hs_63.gr)) ?_
  rintro x w_64 ⟨rfl, hc_65⟩
  refine ⟨.tuple #[.string (setS c ⟨#[114]⟩), .bool (setK c ⟨#[114]⟩)], rfl, ?_⟩
  have hs_66 := hs_63.grow hc_65
  refine SL.v (.tuple #[.string (setS c ⟨#[114]⟩), .bool (setK c ⟨#[114]⟩)]) ?_
  refine SL.v (.string (setS c ⟨#[114]⟩)) ?_
  refine SL.v (.bool (setK c ⟨#[114]⟩)) ?_
  refine SL.v (.string (setS c ⟨#[114]⟩)) ?_
  refine SL.v (.bool (setK c ⟨#[114]⟩)) ?_
  refine SL.nil ?_
  refine CW.seq ?_
  refine CW.region ?_
  refine SL.load (g := g_1) (off := 0) (v := .agg (cdA c)) rfl rfl rfl (by kernel_rfl) (hs_66.pt_at (i := 0) rfl) (by kernel_rfl) ?_
  refine SL.v (.string ⟨#[114]⟩) ?_
  refine SL.call (f := 15) (args := #[.agg (cdA c), .string ⟨#[114]⟩]) (w1 := w_64) rfl rfl (by kernel_rfl) (rset_any c ⟨#[114]⟩ w_64 hok (hT.gr hs_66.gr)) ?_
  rintro x w_67 ⟨rfl, hc_68⟩
  refine ⟨.tuple #[.string (setS c ⟨#[114]⟩), .bool (setK c ⟨#[114]⟩)], rfl, ?_⟩
  have hs_69 := hs_66.grow hc_68
  refine SL.v (.tuple #[.string (setS c ⟨#[114]⟩), .bool (setK c ⟨#[114]⟩)]) ?_
  refine SL.v (.string (setS c ⟨#[114]⟩)) ?_
  refine SL.v (.bool (setK c ⟨#[114]⟩)) ?_
  refine SL.v (.string (setS c ⟨#[114]⟩)) ?_
  refine SL.v (.bool (setK c ⟨#[114]⟩)) ?_
  refine SL.nil ?_
  refine CW.seq ?_
  refine CW.region ?_
  refine SL.v (.string (setS c ⟨#[114]⟩)) ?_
  refine SL.v (.string (setS c ⟨#[114]⟩)) ?_
  refine SL.val (v := .bool false) (w' := w_67) rfl rfl (run_strneB (a := setS c ⟨#[114]⟩) (b := setS c ⟨#[114]⟩) (c := true) rfl (by kernel_rfl) (by kernel_rfl) (seqB_self _)) ?_
  refine SL.v (.bool false) ?_
  refine SL.on rfl rfl (by kernel_rfl) ?_
  refine SL.v (.bool (setK c ⟨#[114]⟩)) ?_
  refine SL.on rfl rfl (by kernel_rfl) ?_
  refine SL.v (.bool (setK c ⟨#[114]⟩)) ?_
  refine SL.on rfl rfl (by kernel_rfl) ?_
  refine SL.val (v := .bool false) (w' := w_67) rfl rfl (run_boolne (a := setK c ⟨#[114]⟩) (b := setK c ⟨#[114]⟩) (c := false) rfl (by kernel_rfl) (by kernel_rfl) (by kernel_rfl) (by cases (setK c ⟨#[114]⟩) <;> rfl)) ?_
  refine SL.v (.bool false) ?_
  refine SL.nil ?_
  refine CW.cond_false (by kernel_rfl) ?_
  refine CW.skip ?_
  refine CW.region ?_
  refine SL.v (.int .i64 3) ?_
  refine SL.v (.int .i64 3) ?_
  refine SL.nil ?_
  refine CR.fresh (fun e9 => e9 0 = .agg (cdA c) ∧ e9 1 = .string id ∧ e9 2 = .pointer (some ⟨g_1, 0, none⟩) ∧ e9 4 = .bool false ∧ e9 11 = .bool true ∧ e9 12 = .bool false ∧ e9 13 = .agg (cdA c) ∧ e9 14 = .bool true ∧ e9 15 = .bool false ∧ e9 16 = .string id ∧ e9 17 = .slice (some ⟨g_10, 0, none⟩) 11 11 ∧ e9 18 = .int .i64 11 ∧ e9 19 = .int .i64 3) ⟨(by kernel_rfl), (by kernel_rfl), (by kernel_rfl), (by kernel_rfl), (by kernel_rfl), (by kernel_rfl), (by kernel_rfl), (by kernel_rfl), (by kernel_rfl), (by kernel_rfl), (by kernel_rfl), (by kernel_rfl), (by kernel_rfl)⟩ ?_
  rintro e_70 ⟨hv_72, hv_73, hv_74, hv_75, hv_76, hv_77, hv_78, hv_79, hv_80, hv_81, hv_82, hv_83, hv_84⟩
  obtain ⟨e_71, rfl⟩ : ∃ e_71, e_70 = put1 (put1 (put1 (put1 (put1 (put1 (put1 (put1 (put1 (put1 (put1 (put1 (put1 e_71 0 (.agg (cdA c))) 1 (.string id)) 2 (.pointer (some ⟨g_1, 0, none⟩))) 4 (.bool false)) 11 (.bool true)) 12 (.bool false)) 13 (.agg (cdA c))) 14 (.bool true)) 15 (.bool false)) 16 (.string id)) 17 (.slice (some ⟨g_10, 0, none⟩) 11 11)) 18 (.int .i64 11)) 19 (.int .i64 3) := ⟨e_70, (put_self hv_84).trans (congrArg (fun z => put1 z 19 (.int .i64 3)) ((put_self hv_83).trans (congrArg (fun z => put1 z 18 (.int .i64 11)) ((put_self hv_82).trans (congrArg (fun z => put1 z 17 (.slice (some ⟨g_10, 0, none⟩) 11 11)) ((put_self hv_81).trans (congrArg (fun z => put1 z 16 (.string id)) ((put_self hv_80).trans (congrArg (fun z => put1 z 15 (.bool false)) ((put_self hv_79).trans (congrArg (fun z => put1 z 14 (.bool true)) ((put_self hv_78).trans (congrArg (fun z => put1 z 13 (.agg (cdA c))) ((put_self hv_77).trans (congrArg (fun z => put1 z 12 (.bool false)) ((put_self hv_76).trans (congrArg (fun z => put1 z 11 (.bool true)) ((put_self hv_75).trans (congrArg (fun z => put1 z 4 (.bool false)) ((put_self hv_74).trans (congrArg (fun z => put1 z 2 (.pointer (some ⟨g_1, 0, none⟩))) ((put_self hv_73).trans (congrArg (fun z => put1 z 1 (.string id)) (put_self hv_72))))))))))))))))))))))))⟩
  clear hv_72 hv_73 hv_74 hv_75 hv_76 hv_77 hv_78 hv_79 hv_80 hv_81 hv_82 hv_83 hv_84
  refine CR.more ?_
  refine CW.seq ?_
  refine CW.region ?_
  refine SL.v (.bool true) ?_
  refine SL.nil ?_
  refine CW.seq ?_
  refine CW.cond_true (by kernel_rfl) ?_
  refine CW.skip ?_
  refine CW.seq ?_
  refine CW.block ?_
  refine CW.seq ?_
  refine CW.region ?_
  refine SL.v (.pointer (some ⟨g_10, 3, none⟩)) ?_
  refine SL.load (g := g_10) (off := 3) (v := .string ⟨#[115]⟩) rfl rfl rfl (by kernel_rfl) (hs_69.pt_at (i := 1) rfl) (by kernel_rfl) ?_
  refine SL.v (.string ⟨#[115]⟩) ?_
  refine SL.nil ?_
  refine CW.seq ?_
  refine CW.region ?_
  refine SL.load (g := g_1) (off := 0) (v := .agg (cdA c)) rfl rfl rfl (by kernel_rfl) (hs_69.pt_at (i := 0) rfl) (by kernel_rfl) ?_
  refine SL.call (f := 9) (args := #[.agg (cdA c)]) (w1 := w_67) rfl rfl (by kernel_rfl) (own19 c w_67 hm) ?_
  rintro x w_85 ⟨rfl, hc_86⟩
  refine ⟨.agg (cvA c), rfl, ?_⟩
  have hs_87 := hs_69.grow hc_86
  refine SL.v (.string ⟨#[115]⟩) ?_
  refine SL.call (f := 14) (args := #[.agg (cvA c), .string ⟨#[115]⟩]) (w1 := w_85) rfl rfl (by kernel_rfl) (set_any c ⟨#[115]⟩ w_85 hok (hT.gr hs_87.gr)) ?_
  rintro x w_88 ⟨rfl, hc_89⟩
  refine ⟨.tuple #[.string (setS c ⟨#[115]⟩), .bool (setK c ⟨#[115]⟩)], rfl, ?_⟩
  have hs_90 := hs_87.grow hc_89
  refine SL.v (.tuple #[.string (setS c ⟨#[115]⟩), .bool (setK c ⟨#[115]⟩)]) ?_
  refine SL.v (.string (setS c ⟨#[115]⟩)) ?_
  refine SL.v (.bool (setK c ⟨#[115]⟩)) ?_
  refine SL.v (.string (setS c ⟨#[115]⟩)) ?_
  refine SL.v (.bool (setK c ⟨#[115]⟩)) ?_
  refine SL.nil ?_
  refine CW.seq ?_
  refine CW.region ?_
  refine SL.load (g := g_1) (off := 0) (v := .agg (cdA c)) rfl rfl rfl (by kernel_rfl) (hs_90.pt_at (i := 0) rfl) (by kernel_rfl) ?_
  refine SL.v (.string ⟨#[115]⟩) ?_
  refine SL.call (f := 15) (args := #[.agg (cdA c), .string ⟨#[115]⟩]) (w1 := w_88) rfl rfl (by kernel_rfl) (rset_any c ⟨#[115]⟩ w_88 hok (hT.gr hs_90.gr)) ?_
  rintro x w_91 ⟨rfl, hc_92⟩
  refine ⟨.tuple #[.string (setS c ⟨#[115]⟩), .bool (setK c ⟨#[115]⟩)], rfl, ?_⟩
  have hs_93 := hs_90.grow hc_92
  refine SL.v (.tuple #[.string (setS c ⟨#[115]⟩), .bool (setK c ⟨#[115]⟩)]) ?_
  refine SL.v (.string (setS c ⟨#[115]⟩)) ?_
  refine SL.v (.bool (setK c ⟨#[115]⟩)) ?_
  refine SL.v (.string (setS c ⟨#[115]⟩)) ?_
  refine SL.v (.bool (setK c ⟨#[115]⟩)) ?_
  refine SL.nil ?_
  refine CW.seq ?_
  refine CW.region ?_
  refine SL.v (.string (setS c ⟨#[115]⟩)) ?_
  refine SL.v (.string (setS c ⟨#[115]⟩)) ?_
  refine SL.val (v := .bool false) (w' := w_91) rfl rfl (run_strneB (a := setS c ⟨#[115]⟩) (b := setS c ⟨#[115]⟩) (c := true) rfl (by kernel_rfl) (by kernel_rfl) (seqB_self _)) ?_
  refine SL.v (.bool false) ?_
  refine SL.on rfl rfl (by kernel_rfl) ?_
  refine SL.v (.bool (setK c ⟨#[115]⟩)) ?_
  refine SL.on rfl rfl (by kernel_rfl) ?_
  refine SL.v (.bool (setK c ⟨#[115]⟩)) ?_
  refine SL.on rfl rfl (by kernel_rfl) ?_
  refine SL.val (v := .bool false) (w' := w_91) rfl rfl (run_boolne (a := setK c ⟨#[115]⟩) (b := setK c ⟨#[115]⟩) (c := false) rfl (by kernel_rfl) (by kernel_rfl) (by kernel_rfl) (by cases (setK c ⟨#[115]⟩) <;> rfl)) ?_
  refine SL.v (.bool false) ?_
  refine SL.nil ?_
  refine CW.cond_false (by kernel_rfl) ?_
  refine CW.skip ?_
  refine CW.region ?_
  refine SL.v (.int .i64 4) ?_
  refine SL.v (.int .i64 4) ?_
  refine SL.nil ?_
  refine CR.fresh (fun e9 => e9 0 = .agg (cdA c) ∧ e9 1 = .string id ∧ e9 2 = .pointer (some ⟨g_1, 0, none⟩) ∧ e9 4 = .bool false ∧ e9 11 = .bool true ∧ e9 12 = .bool false ∧ e9 13 = .agg (cdA c) ∧ e9 14 = .bool true ∧ e9 15 = .bool false ∧ e9 16 = .string id ∧ e9 17 = .slice (some ⟨g_10, 0, none⟩) 11 11 ∧ e9 18 = .int .i64 11 ∧ e9 19 = .int .i64 4) ⟨(by kernel_rfl), (by kernel_rfl), (by kernel_rfl), (by kernel_rfl), (by kernel_rfl), (by kernel_rfl), (by kernel_rfl), (by kernel_rfl), (by kernel_rfl), (by kernel_rfl), (by kernel_rfl), (by kernel_rfl), (by kernel_rfl)⟩ ?_
  rintro e_94 ⟨hv_96, hv_97, hv_98, hv_99, hv_100, hv_101, hv_102, hv_103, hv_104, hv_105, hv_106, hv_107, hv_108⟩
  obtain ⟨e_95, rfl⟩ : ∃ e_95, e_94 = put1 (put1 (put1 (put1 (put1 (put1 (put1 (put1 (put1 (put1 (put1 (put1 (put1 e_95 0 (.agg (cdA c))) 1 (.string id)) 2 (.pointer (some ⟨g_1, 0, none⟩))) 4 (.bool false)) 11 (.bool true)) 12 (.bool false)) 13 (.agg (cdA c))) 14 (.bool true)) 15 (.bool false)) 16 (.string id)) 17 (.slice (some ⟨g_10, 0, none⟩) 11 11)) 18 (.int .i64 11)) 19 (.int .i64 4) := ⟨e_94, (put_self hv_108).trans (congrArg (fun z => put1 z 19 (.int .i64 4)) ((put_self hv_107).trans (congrArg (fun z => put1 z 18 (.int .i64 11)) ((put_self hv_106).trans (congrArg (fun z => put1 z 17 (.slice (some ⟨g_10, 0, none⟩) 11 11)) ((put_self hv_105).trans (congrArg (fun z => put1 z 16 (.string id)) ((put_self hv_104).trans (congrArg (fun z => put1 z 15 (.bool false)) ((put_self hv_103).trans (congrArg (fun z => put1 z 14 (.bool true)) ((put_self hv_102).trans (congrArg (fun z => put1 z 13 (.agg (cdA c))) ((put_self hv_101).trans (congrArg (fun z => put1 z 12 (.bool false)) ((put_self hv_100).trans (congrArg (fun z => put1 z 11 (.bool true)) ((put_self hv_99).trans (congrArg (fun z => put1 z 4 (.bool false)) ((put_self hv_98).trans (congrArg (fun z => put1 z 2 (.pointer (some ⟨g_1, 0, none⟩))) ((put_self hv_97).trans (congrArg (fun z => put1 z 1 (.string id)) (put_self hv_96))))))))))))))))))))))))⟩
  clear hv_96 hv_97 hv_98 hv_99 hv_100 hv_101 hv_102 hv_103 hv_104 hv_105 hv_106 hv_107 hv_108
  refine CR.more ?_
  refine CW.seq ?_
  refine CW.region ?_
  refine SL.v (.bool true) ?_
  refine SL.nil ?_
  refine CW.seq ?_
  refine CW.cond_true (by kernel_rfl) ?_
  refine CW.skip ?_
  refine CW.seq ?_
  refine CW.block ?_
  refine CW.seq ?_
  refine CW.region ?_
  refine SL.v (.pointer (some ⟨g_10, 4, none⟩)) ?_
  refine SL.load (g := g_10) (off := 4) (v := .string ⟨#[34, 113]⟩) rfl rfl rfl (by kernel_rfl) (hs_93.pt_at (i := 1) rfl) (by kernel_rfl) ?_
  refine SL.v (.string ⟨#[34, 113]⟩) ?_
  refine SL.nil ?_
  refine CW.seq ?_
  refine CW.region ?_
  refine SL.load (g := g_1) (off := 0) (v := .agg (cdA c)) rfl rfl rfl (by kernel_rfl) (hs_93.pt_at (i := 0) rfl) (by kernel_rfl) ?_
  refine SL.call (f := 9) (args := #[.agg (cdA c)]) (w1 := w_91) rfl rfl (by kernel_rfl) (own19 c w_91 hm) ?_
  rintro x w_109 ⟨rfl, hc_110⟩
  refine ⟨.agg (cvA c), rfl, ?_⟩
  have hs_111 := hs_93.grow hc_110
  refine SL.v (.string ⟨#[34, 113]⟩) ?_
  refine SL.call (f := 14) (args := #[.agg (cvA c), .string ⟨#[34, 113]⟩]) (w1 := w_109) rfl rfl (by kernel_rfl) (set_any c ⟨#[34, 113]⟩ w_109 hok (hT.gr hs_111.gr)) ?_
  rintro x w_112 ⟨rfl, hc_113⟩
  refine ⟨.tuple #[.string (setS c ⟨#[34, 113]⟩), .bool (setK c ⟨#[34, 113]⟩)], rfl, ?_⟩
  have hs_114 := hs_111.grow hc_113
  refine SL.v (.tuple #[.string (setS c ⟨#[34, 113]⟩), .bool (setK c ⟨#[34, 113]⟩)]) ?_
  refine SL.v (.string (setS c ⟨#[34, 113]⟩)) ?_
  refine SL.v (.bool (setK c ⟨#[34, 113]⟩)) ?_
  refine SL.v (.string (setS c ⟨#[34, 113]⟩)) ?_
  refine SL.v (.bool (setK c ⟨#[34, 113]⟩)) ?_
  refine SL.nil ?_
  refine CW.seq ?_
  refine CW.region ?_
  refine SL.load (g := g_1) (off := 0) (v := .agg (cdA c)) rfl rfl rfl (by kernel_rfl) (hs_114.pt_at (i := 0) rfl) (by kernel_rfl) ?_
  refine SL.v (.string ⟨#[34, 113]⟩) ?_
  refine SL.call (f := 15) (args := #[.agg (cdA c), .string ⟨#[34, 113]⟩]) (w1 := w_112) rfl rfl (by kernel_rfl) (rset_any c ⟨#[34, 113]⟩ w_112 hok (hT.gr hs_114.gr)) ?_
  rintro x w_115 ⟨rfl, hc_116⟩
  refine ⟨.tuple #[.string (setS c ⟨#[34, 113]⟩), .bool (setK c ⟨#[34, 113]⟩)], rfl, ?_⟩
  have hs_117 := hs_114.grow hc_116
  refine SL.v (.tuple #[.string (setS c ⟨#[34, 113]⟩), .bool (setK c ⟨#[34, 113]⟩)]) ?_
  refine SL.v (.string (setS c ⟨#[34, 113]⟩)) ?_
  refine SL.v (.bool (setK c ⟨#[34, 113]⟩)) ?_
  refine SL.v (.string (setS c ⟨#[34, 113]⟩)) ?_
  refine SL.v (.bool (setK c ⟨#[34, 113]⟩)) ?_
  refine SL.nil ?_
  refine CW.seq ?_
  refine CW.region ?_
  refine SL.v (.string (setS c ⟨#[34, 113]⟩)) ?_
  refine SL.v (.string (setS c ⟨#[34, 113]⟩)) ?_
  refine SL.val (v := .bool false) (w' := w_115) rfl rfl (run_strneB (a := setS c ⟨#[34, 113]⟩) (b := setS c ⟨#[34, 113]⟩) (c := true) rfl (by kernel_rfl) (by kernel_rfl) (seqB_self _)) ?_
  refine SL.v (.bool false) ?_
  refine SL.on rfl rfl (by kernel_rfl) ?_
  refine SL.v (.bool (setK c ⟨#[34, 113]⟩)) ?_
  refine SL.on rfl rfl (by kernel_rfl) ?_
  refine SL.v (.bool (setK c ⟨#[34, 113]⟩)) ?_
  refine SL.on rfl rfl (by kernel_rfl) ?_
  refine SL.val (v := .bool false) (w' := w_115) rfl rfl (run_boolne (a := setK c ⟨#[34, 113]⟩) (b := setK c ⟨#[34, 113]⟩) (c := false) rfl (by kernel_rfl) (by kernel_rfl) (by kernel_rfl) (by cases (setK c ⟨#[34, 113]⟩) <;> rfl)) ?_
  refine SL.v (.bool false) ?_
  refine SL.nil ?_
  refine CW.cond_false (by kernel_rfl) ?_
  refine CW.skip ?_
  refine CW.region ?_
  refine SL.v (.int .i64 5) ?_
  refine SL.v (.int .i64 5) ?_
  refine SL.nil ?_
  refine CR.fresh (fun e9 => e9 0 = .agg (cdA c) ∧ e9 1 = .string id ∧ e9 2 = .pointer (some ⟨g_1, 0, none⟩) ∧ e9 4 = .bool false ∧ e9 11 = .bool true ∧ e9 12 = .bool false ∧ e9 13 = .agg (cdA c) ∧ e9 14 = .bool true ∧ e9 15 = .bool false ∧ e9 16 = .string id ∧ e9 17 = .slice (some ⟨g_10, 0, none⟩) 11 11 ∧ e9 18 = .int .i64 11 ∧ e9 19 = .int .i64 5) ⟨(by kernel_rfl), (by kernel_rfl), (by kernel_rfl), (by kernel_rfl), (by kernel_rfl), (by kernel_rfl), (by kernel_rfl), (by kernel_rfl), (by kernel_rfl), (by kernel_rfl), (by kernel_rfl), (by kernel_rfl), (by kernel_rfl)⟩ ?_
  rintro e_118 ⟨hv_120, hv_121, hv_122, hv_123, hv_124, hv_125, hv_126, hv_127, hv_128, hv_129, hv_130, hv_131, hv_132⟩
  obtain ⟨e_119, rfl⟩ : ∃ e_119, e_118 = put1 (put1 (put1 (put1 (put1 (put1 (put1 (put1 (put1 (put1 (put1 (put1 (put1 e_119 0 (.agg (cdA c))) 1 (.string id)) 2 (.pointer (some ⟨g_1, 0, none⟩))) 4 (.bool false)) 11 (.bool true)) 12 (.bool false)) 13 (.agg (cdA c))) 14 (.bool true)) 15 (.bool false)) 16 (.string id)) 17 (.slice (some ⟨g_10, 0, none⟩) 11 11)) 18 (.int .i64 11)) 19 (.int .i64 5) := ⟨e_118, (put_self hv_132).trans (congrArg (fun z => put1 z 19 (.int .i64 5)) ((put_self hv_131).trans (congrArg (fun z => put1 z 18 (.int .i64 11)) ((put_self hv_130).trans (congrArg (fun z => put1 z 17 (.slice (some ⟨g_10, 0, none⟩) 11 11)) ((put_self hv_129).trans (congrArg (fun z => put1 z 16 (.string id)) ((put_self hv_128).trans (congrArg (fun z => put1 z 15 (.bool false)) ((put_self hv_127).trans (congrArg (fun z => put1 z 14 (.bool true)) ((put_self hv_126).trans (congrArg (fun z => put1 z 13 (.agg (cdA c))) ((put_self hv_125).trans (congrArg (fun z => put1 z 12 (.bool false)) ((put_self hv_124).trans (congrArg (fun z => put1 z 11 (.bool true)) ((put_self hv_123).trans (congrArg (fun z => put1 z 4 (.bool false)) ((put_self hv_122).trans (congrArg (fun z => put1 z 2 (.pointer (some ⟨g_1, 0, none⟩))) ((put_self hv_121).trans (congrArg (fun z => put1 z 1 (.string id)) (put_self hv_120))))))))))))))))))))))))⟩
  clear hv_120 hv_121 hv_122 hv_123 hv_124 hv_125 hv_126 hv_127 hv_128 hv_129 hv_130 hv_131 hv_132
  refine CR.more ?_
  refine CW.seq ?_
  refine CW.region ?_
  refine SL.v (.bool true) ?_
  refine SL.nil ?_
  refine CW.seq ?_
  refine CW.cond_true (by kernel_rfl) ?_
  refine CW.skip ?_
  refine CW.seq ?_
  refine CW.block ?_
  refine CW.seq ?_
  refine CW.region ?_
  refine SL.v (.pointer (some ⟨g_10, 5, none⟩)) ?_
  refine SL.load (g := g_10) (off := 5) (v := .string ⟨#[34, 112]⟩) rfl rfl rfl (by kernel_rfl) (hs_117.pt_at (i := 1) rfl) (by kernel_rfl) ?_
  refine SL.v (.string ⟨#[34, 112]⟩) ?_
  refine SL.nil ?_
  refine CW.seq ?_
  refine CW.region ?_
  refine SL.load (g := g_1) (off := 0) (v := .agg (cdA c)) rfl rfl rfl (by kernel_rfl) (hs_117.pt_at (i := 0) rfl) (by kernel_rfl) ?_
  refine SL.call (f := 9) (args := #[.agg (cdA c)]) (w1 := w_115) rfl rfl (by kernel_rfl) (own19 c w_115 hm) ?_
  rintro x w_133 ⟨rfl, hc_134⟩
  refine ⟨.agg (cvA c), rfl, ?_⟩
  have hs_135 := hs_117.grow hc_134
  refine SL.v (.string ⟨#[34, 112]⟩) ?_
  refine SL.call (f := 14) (args := #[.agg (cvA c), .string ⟨#[34, 112]⟩]) (w1 := w_133) rfl rfl (by kernel_rfl) (set_any c ⟨#[34, 112]⟩ w_133 hok (hT.gr hs_135.gr)) ?_
  rintro x w_136 ⟨rfl, hc_137⟩
  refine ⟨.tuple #[.string (setS c ⟨#[34, 112]⟩), .bool (setK c ⟨#[34, 112]⟩)], rfl, ?_⟩
  have hs_138 := hs_135.grow hc_137
  refine SL.v (.tuple #[.string (setS c ⟨#[34, 112]⟩), .bool (setK c ⟨#[34, 112]⟩)]) ?_
  refine SL.v (.string (setS c ⟨#[34, 112]⟩)) ?_
  refine SL.v (.bool (setK c ⟨#[34, 112]⟩)) ?_
  refine SL.v (.string (setS c ⟨#[34, 112]⟩)) ?_
  refine SL.v (.bool (setK c ⟨#[34, 112]⟩)) ?_
  refine SL.nil ?_
  refine CW.seq ?_
  refine CW.region ?_
  refine SL.load (g := g_1) (off := 0) (v := .agg (cdA c)) rfl rfl rfl (by kernel_rfl) (hs_138.pt_at (i := 0) rfl) (by kernel_rfl) ?_
  refine SL.v (.string ⟨#[34, 112]⟩) ?_
  refine SL.call (f := 15) (args := #[.agg (cdA c), .string ⟨#[34, 112]⟩]) (w1 := w_136) rfl rfl (by kernel_rfl) (rset_any c ⟨#[34, 112]⟩ w_136 hok (hT.gr hs_138.gr)) ?_
  rintro x w_139 ⟨rfl, hc_140⟩
  refine ⟨.tuple #[.string (setS c ⟨#[34, 112]⟩), .bool (setK c ⟨#[34, 112]⟩)], rfl, ?_⟩
  have hs_141 := hs_138.grow hc_140
  refine SL.v (.tuple #[.string (setS c ⟨#[34, 112]⟩), .bool (setK c ⟨#[34, 112]⟩)]) ?_
  refine SL.v (.string (setS c ⟨#[34, 112]⟩)) ?_
  refine SL.v (.bool (setK c ⟨#[34, 112]⟩)) ?_
  refine SL.v (.string (setS c ⟨#[34, 112]⟩)) ?_
  refine SL.v (.bool (setK c ⟨#[34, 112]⟩)) ?_
  refine SL.nil ?_
  refine CW.seq ?_
  refine CW.region ?_
  refine SL.v (.string (setS c ⟨#[34, 112]⟩)) ?_
  refine SL.v (.string (setS c ⟨#[34, 112]⟩)) ?_
  refine SL.val (v := .bool false) (w' := w_139) rfl rfl (run_strneB (a := setS c ⟨#[34, 112]⟩) (b := setS c ⟨#[34, 112]⟩) (c := true) rfl (by kernel_rfl) (by kernel_rfl) (seqB_self _)) ?_
  refine SL.v (.bool false) ?_
  refine SL.on rfl rfl (by kernel_rfl) ?_
  refine SL.v (.bool (setK c ⟨#[34, 112]⟩)) ?_
  refine SL.on rfl rfl (by kernel_rfl) ?_
  refine SL.v (.bool (setK c ⟨#[34, 112]⟩)) ?_
  refine SL.on rfl rfl (by kernel_rfl) ?_
  refine SL.val (v := .bool false) (w' := w_139) rfl rfl (run_boolne (a := setK c ⟨#[34, 112]⟩) (b := setK c ⟨#[34, 112]⟩) (c := false) rfl (by kernel_rfl) (by kernel_rfl) (by kernel_rfl) (by cases (setK c ⟨#[34, 112]⟩) <;> rfl)) ?_
  refine SL.v (.bool false) ?_
  refine SL.nil ?_
  refine CW.cond_false (by kernel_rfl) ?_
  refine CW.skip ?_
  refine CW.region ?_
  refine SL.v (.int .i64 6) ?_
  refine SL.v (.int .i64 6) ?_
  refine SL.nil ?_
  refine CR.fresh (fun e9 => e9 0 = .agg (cdA c) ∧ e9 1 = .string id ∧ e9 2 = .pointer (some ⟨g_1, 0, none⟩) ∧ e9 4 = .bool false ∧ e9 11 = .bool true ∧ e9 12 = .bool false ∧ e9 13 = .agg (cdA c) ∧ e9 14 = .bool true ∧ e9 15 = .bool false ∧ e9 16 = .string id ∧ e9 17 = .slice (some ⟨g_10, 0, none⟩) 11 11 ∧ e9 18 = .int .i64 11 ∧ e9 19 = .int .i64 6) ⟨(by kernel_rfl), (by kernel_rfl), (by kernel_rfl), (by kernel_rfl), (by kernel_rfl), (by kernel_rfl), (by kernel_rfl), (by kernel_rfl), (by kernel_rfl), (by kernel_rfl), (by kernel_rfl), (by kernel_rfl), (by kernel_rfl)⟩ ?_
  rintro e_142 ⟨hv_144, hv_145, hv_146, hv_147, hv_148, hv_149, hv_150, hv_151, hv_152, hv_153, hv_154, hv_155, hv_156⟩
  obtain ⟨e_143, rfl⟩ : ∃ e_143, e_142 = put1 (put1 (put1 (put1 (put1 (put1 (put1 (put1 (put1 (put1 (put1 (put1 (put1 e_143 0 (.agg (cdA c))) 1 (.string id)) 2 (.pointer (some ⟨g_1, 0, none⟩))) 4 (.bool false)) 11 (.bool true)) 12 (.bool false)) 13 (.agg (cdA c))) 14 (.bool true)) 15 (.bool false)) 16 (.string id)) 17 (.slice (some ⟨g_10, 0, none⟩) 11 11)) 18 (.int .i64 11)) 19 (.int .i64 6) := ⟨e_142, (put_self hv_156).trans (congrArg (fun z => put1 z 19 (.int .i64 6)) ((put_self hv_155).trans (congrArg (fun z => put1 z 18 (.int .i64 11)) ((put_self hv_154).trans (congrArg (fun z => put1 z 17 (.slice (some ⟨g_10, 0, none⟩) 11 11)) ((put_self hv_153).trans (congrArg (fun z => put1 z 16 (.string id)) ((put_self hv_152).trans (congrArg (fun z => put1 z 15 (.bool false)) ((put_self hv_151).trans (congrArg (fun z => put1 z 14 (.bool true)) ((put_self hv_150).trans (congrArg (fun z => put1 z 13 (.agg (cdA c))) ((put_self hv_149).trans (congrArg (fun z => put1 z 12 (.bool false)) ((put_self hv_148).trans (congrArg (fun z => put1 z 11 (.bool true)) ((put_self hv_147).trans (congrArg (fun z => put1 z 4 (.bool false)) ((put_self hv_146).trans (congrArg (fun z => put1 z 2 (.pointer (some ⟨g_1, 0, none⟩))) ((put_self hv_145).trans (congrArg (fun z => put1 z 1 (.string id)) (put_self hv_144))))))))))))))))))))))))⟩
  clear hv_144 hv_145 hv_146 hv_147 hv_148 hv_149 hv_150 hv_151 hv_152 hv_153 hv_154 hv_155 hv_156
  refine CR.more ?_
  refine CW.seq ?_
  refine CW.region ?_
  refine SL.v (.bool true) ?_
  refine SL.nil ?_
  refine CW.seq ?_
  refine CW.cond_true (by kernel_rfl) ?_
  refine CW.skip ?_
  refine CW.seq ?_
  refine CW.block ?_
  refine CW.seq ?_
  refine CW.region ?_
  refine SL.v (.pointer (some ⟨g_10, 6, none⟩)) ?_
  refine SL.load (g := g_10) (off := 6) (v := .string ⟨#[42, 120]⟩) rfl rfl rfl (by kernel_rfl) (hs_141.pt_at (i := 1) rfl) (by kernel_rfl) ?_
  refine SL.v (.string ⟨#[42, 120]⟩) ?_
  refine SL.nil ?_
  refine CW.seq ?_
  refine CW.region ?_
  refine SL.load (g := g_1) (off := 0) (v := .agg (cdA c)) rfl rfl rfl (by kernel_rfl) (hs_141.pt_at (i := 0) rfl) (by kernel_rfl) ?_
  refine SL.call (f := 9) (args := #[.agg (cdA c)]) (w1 := w_139) rfl rfl (by kernel_rfl) (own19 c w_139 hm) ?_
  rintro x w_157 ⟨rfl, hc_158⟩
  refine ⟨.agg (cvA c), rfl, ?_⟩
  have hs_159 := hs_141.grow hc_158
  refine SL.v (.string ⟨#[42, 120]⟩) ?_
  refine SL.call (f := 14) (args := #[.agg (cvA c), .string ⟨#[42, 120]⟩]) (w1 := w_157) rfl rfl (by kernel_rfl) (set_any c ⟨#[42, 120]⟩ w_157 hok (hT.gr hs_159.gr)) ?_
  rintro x w_160 ⟨rfl, hc_161⟩
  refine ⟨.tuple #[.string (setS c ⟨#[42, 120]⟩), .bool (setK c ⟨#[42, 120]⟩)], rfl, ?_⟩
  have hs_162 := hs_159.grow hc_161
  refine SL.v (.tuple #[.string (setS c ⟨#[42, 120]⟩), .bool (setK c ⟨#[42, 120]⟩)]) ?_
  refine SL.v (.string (setS c ⟨#[42, 120]⟩)) ?_
  refine SL.v (.bool (setK c ⟨#[42, 120]⟩)) ?_
  refine SL.v (.string (setS c ⟨#[42, 120]⟩)) ?_
  refine SL.v (.bool (setK c ⟨#[42, 120]⟩)) ?_
  refine SL.nil ?_
  refine CW.seq ?_
  refine CW.region ?_
  refine SL.load (g := g_1) (off := 0) (v := .agg (cdA c)) rfl rfl rfl (by kernel_rfl) (hs_162.pt_at (i := 0) rfl) (by kernel_rfl) ?_
  refine SL.v (.string ⟨#[42, 120]⟩) ?_
  refine SL.call (f := 15) (args := #[.agg (cdA c), .string ⟨#[42, 120]⟩]) (w1 := w_160) rfl rfl (by kernel_rfl) (rset_any c ⟨#[42, 120]⟩ w_160 hok (hT.gr hs_162.gr)) ?_
  rintro x w_163 ⟨rfl, hc_164⟩
  refine ⟨.tuple #[.string (setS c ⟨#[42, 120]⟩), .bool (setK c ⟨#[42, 120]⟩)], rfl, ?_⟩
  have hs_165 := hs_162.grow hc_164
  refine SL.v (.tuple #[.string (setS c ⟨#[42, 120]⟩), .bool (setK c ⟨#[42, 120]⟩)]) ?_
  refine SL.v (.string (setS c ⟨#[42, 120]⟩)) ?_
  refine SL.v (.bool (setK c ⟨#[42, 120]⟩)) ?_
  refine SL.v (.string (setS c ⟨#[42, 120]⟩)) ?_
  refine SL.v (.bool (setK c ⟨#[42, 120]⟩)) ?_
  refine SL.nil ?_
  refine CW.seq ?_
  refine CW.region ?_
  refine SL.v (.string (setS c ⟨#[42, 120]⟩)) ?_
  refine SL.v (.string (setS c ⟨#[42, 120]⟩)) ?_
  refine SL.val (v := .bool false) (w' := w_163) rfl rfl (run_strneB (a := setS c ⟨#[42, 120]⟩) (b := setS c ⟨#[42, 120]⟩) (c := true) rfl (by kernel_rfl) (by kernel_rfl) (seqB_self _)) ?_
  refine SL.v (.bool false) ?_
  refine SL.on rfl rfl (by kernel_rfl) ?_
  refine SL.v (.bool (setK c ⟨#[42, 120]⟩)) ?_
  refine SL.on rfl rfl (by kernel_rfl) ?_
  refine SL.v (.bool (setK c ⟨#[42, 120]⟩)) ?_
  refine SL.on rfl rfl (by kernel_rfl) ?_
  refine SL.val (v := .bool false) (w' := w_163) rfl rfl (run_boolne (a := setK c ⟨#[42, 120]⟩) (b := setK c ⟨#[42, 120]⟩) (c := false) rfl (by kernel_rfl) (by kernel_rfl) (by kernel_rfl) (by cases (setK c ⟨#[42, 120]⟩) <;> rfl)) ?_
  refine SL.v (.bool false) ?_
  refine SL.nil ?_
  refine CW.cond_false (by kernel_rfl) ?_
  refine CW.skip ?_
  refine CW.region ?_
  refine SL.v (.int .i64 7) ?_
  refine SL.v (.int .i64 7) ?_
  refine SL.nil ?_
  refine CR.fresh (fun e9 => e9 0 = .agg (cdA c) ∧ e9 1 = .string id ∧ e9 2 = .pointer (some ⟨g_1, 0, none⟩) ∧ e9 4 = .bool false ∧ e9 11 = .bool true ∧ e9 12 = .bool false ∧ e9 13 = .agg (cdA c) ∧ e9 14 = .bool true ∧ e9 15 = .bool false ∧ e9 16 = .string id ∧ e9 17 = .slice (some ⟨g_10, 0, none⟩) 11 11 ∧ e9 18 = .int .i64 11 ∧ e9 19 = .int .i64 7) ⟨(by kernel_rfl), (by kernel_rfl), (by kernel_rfl), (by kernel_rfl), (by kernel_rfl), (by kernel_rfl), (by kernel_rfl), (by kernel_rfl), (by kernel_rfl), (by kernel_rfl), (by kernel_rfl), (by kernel_rfl), (by kernel_rfl)⟩ ?_
  rintro e_166 ⟨hv_168, hv_169, hv_170, hv_171, hv_172, hv_173, hv_174, hv_175, hv_176, hv_177, hv_178, hv_179, hv_180⟩
  obtain ⟨e_167, rfl⟩ : ∃ e_167, e_166 = put1 (put1 (put1 (put1 (put1 (put1 (put1 (put1 (put1 (put1 (put1 (put1 (put1 e_167 0 (.agg (cdA c))) 1 (.string id)) 2 (.pointer (some ⟨g_1, 0, none⟩))) 4 (.bool false)) 11 (.bool true)) 12 (.bool false)) 13 (.agg (cdA c))) 14 (.bool true)) 15 (.bool false)) 16 (.string id)) 17 (.slice (some ⟨g_10, 0, none⟩) 11 11)) 18 (.int .i64 11)) 19 (.int .i64 7) := ⟨e_166, (put_self hv_180).trans (congrArg (fun z => put1 z 19 (.int .i64 7)) ((put_self hv_179).trans (congrArg (fun z => put1 z 18 (.int .i64 11)) ((put_self hv_178).trans (congrArg (fun z => put1 z 17 (.slice (some ⟨g_10, 0, none⟩) 11 11)) ((put_self hv_177).trans (congrArg (fun z => put1 z 16 (.string id)) ((put_self hv_176).trans (congrArg (fun z => put1 z 15 (.bool false)) ((put_self hv_175).trans (congrArg (fun z => put1 z 14 (.bool true)) ((put_self hv_174).trans (congrArg (fun z => put1 z 13 (.agg (cdA c))) ((put_self hv_173).trans (congrArg (fun z => put1 z 12 (.bool false)) ((put_self hv_172).trans (congrArg (fun z => put1 z 11 (.bool true)) ((put_self hv_171).trans (congrArg (fun z => put1 z 4 (.bool false)) ((put_self hv_170).trans (congrArg (fun z => put1 z 2 (.pointer (some ⟨g_1, 0, none⟩))) ((put_self hv_169).trans (congrArg (fun z => put1 z 1 (.string id)) (put_self hv_168))))))))))))))))))))))))⟩
  clear hv_168 hv_169 hv_170 hv_171 hv_172 hv_173 hv_174 hv_175 hv_176 hv_177 hv_178 hv_179 hv_180
  refine CR.more ?_
  refine CW.seq ?_
  refine CW.region ?_
  refine SL.v (.bool true) ?_
  refine SL.nil ?_
  refine CW.seq ?_
  refine CW.cond_true (by kernel_rfl) ?_
  refine CW.skip ?_
  refine CW.seq ?_
  refine CW.block ?_
  refine CW.seq ?_
  refine CW.region ?_
  refine SL.v (.pointer (some ⟨g_10, 7, none⟩)) ?_
  refine SL.load (g := g_10) (off := 7) (v := .string ⟨#[116]⟩) rfl rfl rfl (by kernel_rfl) (hs_165.pt_at (i := 1) rfl) (by kernel_rfl) ?_
  refine SL.v (.string ⟨#[116]⟩) ?_
  refine SL.nil ?_
  refine CW.seq ?_
  refine CW.region ?_
  refine SL.load (g := g_1) (off := 0) (v := .agg (cdA c)) rfl rfl rfl (by kernel_rfl) (hs_165.pt_at (i := 0) rfl) (by kernel_rfl) ?_
  refine SL.call (f := 9) (args := #[.agg (cdA c)]) (w1 := w_163) rfl rfl (by kernel_rfl) (own19 c w_163 hm) ?_
  rintro x w_181 ⟨rfl, hc_182⟩
  refine ⟨.agg (cvA c), rfl, ?_⟩
  have hs_183 := hs_165.grow hc_182
  refine SL.v (.string ⟨#[116]⟩) ?_
  refine SL.call (f := 14) (args := #[.agg (cvA c), .string ⟨#[116]⟩]) (w1 := w_181) rfl rfl (by kernel_rfl) (set_any c ⟨#[116]⟩ w_181 hok (hT.gr hs_183.gr)) ?_
  rintro x w_184 ⟨rfl, hc_185⟩
  refine ⟨.tuple #[.string (setS c ⟨#[116]⟩), .bool (setK c ⟨#[116]⟩)], rfl, ?_⟩
  have hs_186 := hs_183.grow hc_185
  refine SL.v (.tuple #[.string (setS c ⟨#[116]⟩), .bool (setK c ⟨#[116]⟩)]) ?_
  refine SL.v (.string (setS c ⟨#[116]⟩)) ?_
  refine SL.v (.bool (setK c ⟨#[116]⟩)) ?_
  refine SL.v (.string (setS c ⟨#[116]⟩)) ?_
  refine SL.v (.bool (setK c ⟨#[116]⟩)) ?_
  refine SL.nil ?_
  refine CW.seq ?_
  refine CW.region ?_
  refine SL.load (g := g_1) (off := 0) (v := .agg (cdA c)) rfl rfl rfl (by kernel_rfl) (hs_186.pt_at (i := 0) rfl) (by kernel_rfl) ?_
  refine SL.v (.string ⟨#[116]⟩) ?_
  refine SL.call (f := 15) (args := #[.agg (cdA c), .string ⟨#[116]⟩]) (w1 := w_184) rfl rfl (by kernel_rfl) (rset_any c ⟨#[116]⟩ w_184 hok (hT.gr hs_186.gr)) ?_
  rintro x w_187 ⟨rfl, hc_188⟩
  refine ⟨.tuple #[.string (setS c ⟨#[116]⟩), .bool (setK c ⟨#[116]⟩)], rfl, ?_⟩
  have hs_189 := hs_186.grow hc_188
  refine SL.v (.tuple #[.string (setS c ⟨#[116]⟩), .bool (setK c ⟨#[116]⟩)]) ?_
  refine SL.v (.string (setS c ⟨#[116]⟩)) ?_
  refine SL.v (.bool (setK c ⟨#[116]⟩)) ?_
  refine SL.v (.string (setS c ⟨#[116]⟩)) ?_
  refine SL.v (.bool (setK c ⟨#[116]⟩)) ?_
  refine SL.nil ?_
  refine CW.seq ?_
  refine CW.region ?_
  refine SL.v (.string (setS c ⟨#[116]⟩)) ?_
  refine SL.v (.string (setS c ⟨#[116]⟩)) ?_
  refine SL.val (v := .bool false) (w' := w_187) rfl rfl (run_strneB (a := setS c ⟨#[116]⟩) (b := setS c ⟨#[116]⟩) (c := true) rfl (by kernel_rfl) (by kernel_rfl) (seqB_self _)) ?_
  refine SL.v (.bool false) ?_
  refine SL.on rfl rfl (by kernel_rfl) ?_
  refine SL.v (.bool (setK c ⟨#[116]⟩)) ?_
  refine SL.on rfl rfl (by kernel_rfl) ?_
  refine SL.v (.bool (setK c ⟨#[116]⟩)) ?_
  refine SL.on rfl rfl (by kernel_rfl) ?_
  refine SL.val (v := .bool false) (w' := w_187) rfl rfl (run_boolne (a := setK c ⟨#[116]⟩) (b := setK c ⟨#[116]⟩) (c := false) rfl (by kernel_rfl) (by kernel_rfl) (by kernel_rfl) (by cases (setK c ⟨#[116]⟩) <;> rfl)) ?_
  refine SL.v (.bool false) ?_
  refine SL.nil ?_
  refine CW.cond_false (by kernel_rfl) ?_
  refine CW.skip ?_
  refine CW.region ?_
  refine SL.v (.int .i64 8) ?_
  refine SL.v (.int .i64 8) ?_
  refine SL.nil ?_
  refine CR.fresh (fun e9 => e9 0 = .agg (cdA c) ∧ e9 1 = .string id ∧ e9 2 = .pointer (some ⟨g_1, 0, none⟩) ∧ e9 4 = .bool false ∧ e9 11 = .bool true ∧ e9 12 = .bool false ∧ e9 13 = .agg (cdA c) ∧ e9 14 = .bool true ∧ e9 15 = .bool false ∧ e9 16 = .string id ∧ e9 17 = .slice (some ⟨g_10, 0, none⟩) 11 11 ∧ e9 18 = .int .i64 11 ∧ e9 19 = .int .i64 8) ⟨(by kernel_rfl), (by kernel_rfl), (by kernel_rfl), (by kernel_rfl), (by kernel_rfl), (by kernel_rfl), (by kernel_rfl), (by kernel_rfl), (by kernel_rfl), (by kernel_rfl), (by kernel_rfl), (by kernel_rfl), (by kernel_rfl)⟩ ?_
  rintro e_190 ⟨hv_192, hv_193, hv_194, hv_195, hv_196, hv_197, hv_198, hv_199, hv_200, hv_201, hv_202, hv_203, hv_204⟩
  obtain ⟨e_191, rfl⟩ : ∃ e_191, e_190 = put1 (put1 (put1 (put1 (put1 (put1 (put1 (put1 (put1 (put1 (put1 (put1 (put1 e_191 0 (.agg (cdA c))) 1 (.string id)) 2 (.pointer (some ⟨g_1, 0, none⟩))) 4 (.bool false)) 11 (.bool true)) 12 (.bool false)) 13 (.agg (cdA c))) 14 (.bool true)) 15 (.bool false)) 16 (.string id)) 17 (.slice (some ⟨g_10, 0, none⟩) 11 11)) 18 (.int .i64 11)) 19 (.int .i64 8) := ⟨e_190, (put_self hv_204).trans (congrArg (fun z => put1 z 19 (.int .i64 8)) ((put_self hv_203).trans (congrArg (fun z => put1 z 18 (.int .i64 11)) ((put_self hv_202).trans (congrArg (fun z => put1 z 17 (.slice (some ⟨g_10, 0, none⟩) 11 11)) ((put_self hv_201).trans (congrArg (fun z => put1 z 16 (.string id)) ((put_self hv_200).trans (congrArg (fun z => put1 z 15 (.bool false)) ((put_self hv_199).trans (congrArg (fun z => put1 z 14 (.bool true)) ((put_self hv_198).trans (congrArg (fun z => put1 z 13 (.agg (cdA c))) ((put_self hv_197).trans (congrArg (fun z => put1 z 12 (.bool false)) ((put_self hv_196).trans (congrArg (fun z => put1 z 11 (.bool true)) ((put_self hv_195).trans (congrArg (fun z => put1 z 4 (.bool false)) ((put_self hv_194).trans (congrArg (fun z => put1 z 2 (.pointer (some ⟨g_1, 0, none⟩))) ((put_self hv_193).trans (congrArg (fun z => put1 z 1 (.string id)) (put_self hv_192))))))))))))))))))))))))⟩
  clear hv_192 hv_193 hv_194 hv_195 hv_196 hv_197 hv_198 hv_199 hv_200 hv_201 hv_202 hv_203 hv_204
  refine CR.more ?_
  refine CW.seq ?_
  refine CW.region ?_
  refine SL.v (.bool true) ?_
  refine SL.nil ?_
  refine CW.seq ?_
  refine CW.cond_true (by kernel_rfl) ?_
  refine CW.skip ?_
  refine CW.seq ?_
  refine CW.block ?_
  refine CW.seq ?_
  refine CW.region ?_
  refine SL.v (.pointer (some ⟨g_10, 8, none⟩)) ?_
  refine SL.load (g := g_10) (off := 8) (v := .string ⟨#[36, 124]⟩) rfl rfl rfl (by kernel_rfl) (hs_189.pt_at (i := 1) rfl) (by kernel_rfl) ?_
  refine SL.v (.string ⟨#[36, 124]⟩) ?_
  refine SL.nil ?_
  refine CW.seq ?_
  refine CW.region ?_
  refine SL.load (g := g_1) (off := 0) (v := .agg (cdA c)) rfl rfl rfl (by kernel_rfl) (hs_189.pt_at (i := 0) rfl) (by kernel_rfl) ?_
  refine SL.call (f := 9) (args := #[.agg (cdA c)]) (w1 := w_187) rfl rfl (by kernel_rfl) (own19 c w_187 hm) ?_
  rintro x w_205 ⟨rfl, hc_206⟩
  refine ⟨.agg (cvA c), rfl, ?_⟩
  have hs_207 := hs_189.grow hc_206
  refine SL.v (.string ⟨#[36, 124]⟩) ?_
  refine SL.call (f := 14) (args := #[.agg (cvA c), .string ⟨#[36, 124]⟩]) (w1 := w_205) rfl rfl (by kernel_rfl) (set_any c ⟨#[36, 124]⟩ w_205 hok (hT.gr hs_207.gr)) ?_
  rintro x w_208 ⟨rfl, hc_209⟩
  refine ⟨.tuple #[.string (setS c ⟨#[36, 124]⟩), .bool (setK c ⟨#[36, 124]⟩)], rfl, ?_⟩
  have hs_210 := hs_207.grow hc_209
  refine SL.v (.tuple #[.string (setS c ⟨#[36, 124]⟩), .bool (setK c ⟨#[36, 124]⟩)]) ?_
  refine SL.v (.string (setS c ⟨#[36, 124]⟩)) ?_
  refine SL.v (.bool (setK c ⟨#[36, 124]⟩)) ?_
  refine SL.v (.string (setS c ⟨#[36, 124]⟩)) ?_
  refine SL.v (.bool (setK c ⟨#[36, 124]⟩)) ?_
  refine SL.nil ?_
  refine CW.seq ?_
  refine CW.region ?_
  refine SL.load (g := g_1) (off := 0) (v := .agg (cdA c)) rfl rfl rfl (by kernel_rfl) (hs_210.pt_at (i := 0) rfl) (by kernel_rfl) ?_
  refine SL.v (.string ⟨#[36, 124]⟩) ?_
  refine SL.call (f := 15) (args := #[.agg (cdA c), .string ⟨#[36, 124]⟩]) (w1 := w_208) rfl rfl (by kernel_rfl) (rset_any c ⟨#[36, 124]⟩ w_208 hok (hT.gr hs_210.gr)) ?_
  rintro x w_211 ⟨rfl, hc_212⟩
  refine ⟨.tuple #[.string (setS c ⟨#[36, 124]⟩), .bool (setK c ⟨#[36, 124]⟩)], rfl, ?_⟩
  have hs_213 := hs_210.grow hc_212
  refine SL.v (.tuple #[.string (setS c ⟨#[36, 124]⟩), .bool (setK c ⟨#[36, 124]⟩)]) ?_
  refine SL.v (.string (setS c ⟨#[36, 124]⟩)) ?_
  refine SL.v (.bool (setK c ⟨#[36, 124]⟩)) ?_
  refine SL.v (.string (setS c ⟨#[36, 124]⟩)) ?_
  refine SL.v (.bool (setK c ⟨#[36, 124]⟩)) ?_
  refine SL.nil ?_
  refine CW.seq ?_
  refine CW.region ?_
  refine SL.v (.string (setS c ⟨#[36, 124]⟩)) ?_
  refine SL.v (.string (setS c ⟨#[36, 124]⟩)) ?_
  refine SL.val (v := .bool false) (w' := w_211) rfl rfl (run_strneB (a := setS c ⟨#[36, 124]⟩) (b := setS c ⟨#[36, 124]⟩) (c := true) rfl (by kernel_rfl) (by kernel_rfl) (seqB_self _)) ?_
  refine SL.v (.bool false) ?_
  refine SL.on rfl rfl (by kernel_rfl) ?_
  refine SL.v (.bool (setK c ⟨#[36, 124]⟩)) ?_
  refine SL.on rfl rfl (by kernel_rfl) ?_
  refine SL.v (.bool (setK c ⟨#[36, 124]⟩)) ?_
  refine SL.on rfl rfl (by kernel_rfl) ?_
  refine SL.val (v := .bool false) (w' := w_211) rfl rfl (run_boolne (a := setK c ⟨#[36, 124]⟩) (b := setK c ⟨#[36, 124]⟩) (c := false) rfl (by kernel_rfl) (by kernel_rfl) (by kernel_rfl) (by cases (setK c ⟨#[36, 124]⟩) <;> rfl)) ?_
  refine SL.v (.bool false) ?_
  refine SL.nil ?_
  refine CW.cond_false (by kernel_rfl) ?_
  refine CW.skip ?_
  refine CW.region ?_
  refine SL.v (.int .i64 9) ?_
  refine SL.v (.int .i64 9) ?_
  refine SL.nil ?_
  refine CR.fresh (fun e9 => e9 0 = .agg (cdA c) ∧ e9 1 = .string id ∧ e9 2 = .pointer (some ⟨g_1, 0, none⟩) ∧ e9 4 = .bool false ∧ e9 11 = .bool true ∧ e9 12 = .bool false ∧ e9 13 = .agg (cdA c) ∧ e9 14 = .bool true ∧ e9 15 = .bool false ∧ e9 16 = .string id ∧ e9 17 = .slice (some ⟨g_10, 0, none⟩) 11 11 ∧ e9 18 = .int .i64 11 ∧ e9 19 = .int .i64 9) ⟨(by kernel_rfl), (by kernel_rfl), (by kernel_rfl), (by kernel_rfl), (by kernel_rfl), (by kernel_rfl), (by kernel_rfl), (by kernel_rfl), (by kernel_rfl), (by kernel_rfl), (by kernel_rfl), (by kernel_rfl), (by kernel_rfl)⟩ ?_
  rintro e_214 ⟨hv_216, hv_217, hv_218, hv_219, hv_220, hv_221, hv_222, hv_223, hv_224, hv_225, hv_226, hv_227, hv_228⟩
  obtain ⟨e_215, rfl⟩ : ∃ e_215, e_214 = put1 (put1 (put1 (put1 (put1 (put1 (put1 (put1 (put1 (put1 (put1 (put1 (put1 e_215 0 (.agg (cdA c))) 1 (.string id)) 2 (.pointer (some ⟨g_1, 0, none⟩))) 4 (.bool false)) 11 (.bool true)) 12 (.bool false)) 13 (.agg (cdA c))) 14 (.bool true)) 15 (.bool false)) 16 (.string id)) 17 (.slice (some ⟨g_10, 0, none⟩) 11 11)) 18 (.int .i64 11)) 19 (.int .i64 9) := ⟨e_214, (put_self hv_228).trans (congrArg (fun z => put1 z 19 (.int .i64 9)) ((put_self hv_227).trans (congrArg (fun z => put1 z 18 (.int .i64 11)) ((put_self hv_226).trans (congrArg (fun z => put1 z 17 (.slice (some ⟨g_10, 0, none⟩) 11 11)) ((put_self hv_225).trans (congrArg (fun z => put1 z 16 (.string id)) ((put_self hv_224).trans (congrArg (fun z => put1 z 15 (.bool false)) ((put_self hv_223).trans (congrArg (fun z => put1 z 14 (.bool true)) ((put_self hv_222).trans (congrArg (fun z => put1 z 13 (.agg (cdA c))) ((put_self hv_221).trans (congrArg (fun z => put1 z 12 (.bool false)) ((put_self hv_220).trans (congrArg (fun z => put1 z 11 (.bool true)) ((put_self hv_219).trans (congrArg (fun z => put1 z 4 (.bool false)) ((put_self hv_218).trans (congrArg (fun z => put1 z 2 (.pointer (some ⟨g_1, 0, none⟩))) ((put_self hv_217).trans (congrArg (fun z => put1 z 1 (.string id)) (put_self hv_216))))))))))))))))))))))))⟩
  clear hv_216 hv_217 hv_218 hv_219 hv_220 hv_221 hv_222 hv_223 hv_224 hv_225 hv_226 hv_227 hv_228
  refine CR.more ?_
  refine CW.seq ?_
  refine CW.region ?_
  refine SL.v (.bool true) ?_
  refine SL.nil ?_
  refine CW.seq ?_
  refine CW.cond_true (by kernel_rfl) ?_
  refine CW.skip ?_
  refine CW.seq ?_
  refine CW.block ?_
  refine CW.seq ?_
  refine CW.region ?_
  refine SL.v (.pointer (some ⟨g_10, 9, none⟩)) ?_
  refine SL.load (g := g_10) (off := 9) (v := .string ⟨#[36, 126]⟩) rfl rfl rfl (by kernel_rfl) (hs_213.pt_at (i := 1) rfl) (by kernel_rfl) ?_
  refine SL.v (.string ⟨#[36, 126]⟩) ?_
  refine SL.nil ?_
  refine CW.seq ?_
  refine CW.region ?_
  refine SL.load (g := g_1) (off := 0) (v := .agg (cdA c)) rfl rfl rfl (by kernel_rfl) (hs_213.pt_at (i := 0) rfl) (by kernel_rfl) ?_
  refine SL.call (f := 9) (args := #[.agg (cdA c)]) (w1 := w_211) rfl rfl (by kernel_rfl) (own19 c w_211 hm) ?_
  rintro x w_229 ⟨rfl, hc_230⟩
  refine ⟨.agg (cvA c), rfl, ?_⟩
  have hs_231 := hs_213.grow hc_230
  refine SL.v (.string ⟨#[36, 126]⟩) ?_
  refine SL.call (f := 14) (args := #[.agg (cvA c), .string ⟨#[36, 126]⟩]) (w1 := w_229) rfl rfl (by kernel_rfl) (set_any c ⟨#[36, 126]⟩ w_229 hok (hT.gr hs_231.gr)) ?_
  rintro x w_232 ⟨rfl, hc_233⟩
  refine ⟨.tuple #[.string (setS c ⟨#[36, 126]⟩), .bool (setK c ⟨#[36, 126]⟩)], rfl, ?_⟩
  have hs_234 := hs_231.grow hc_233
  refine SL.v (.tuple #[.string (setS c ⟨#[36, 126]⟩), .bool (setK c ⟨#[36, 126]⟩)]) ?_
  refine SL.v (.string (setS c ⟨#[36, 126]⟩)) ?_
  refine SL.v (.bool (setK c ⟨#[36, 126]⟩)) ?_
  refine SL.v (.string (setS c ⟨#[36, 126]⟩)) ?_
  refine SL.v (.bool (setK c ⟨#[36, 126]⟩)) ?_
  refine SL.nil ?_
  refine CW.seq ?_
  refine CW.region ?_
  refine SL.load (g := g_1) (off := 0) (v := .agg (cdA c)) rfl rfl rfl (by kernel_rfl) (hs_234.pt_at (i := 0) rfl) (by kernel_rfl) ?_
  refine SL.v (.string ⟨#[36, 126]⟩) ?_
  refine SL.call (f := 15) (args := #[.agg (cdA c), .string ⟨#[36, 126]⟩]) (w1 := w_232) rfl rfl (by kernel_rfl) (rset_any c ⟨#[36, 126]⟩ w_232 hok (hT.gr hs_234.gr)) ?_
  rintro x w_235 ⟨rfl, hc_236⟩
  refine ⟨.tuple #[.string (setS c ⟨#[36, 126]⟩), .bool (setK c ⟨#[36, 126]⟩)], rfl, ?_⟩
  have hs_237 := hs_234.grow hc_236
  refine SL.v (.tuple #[.string (setS c ⟨#[36, 126]⟩), .bool (setK c ⟨#[36, 126]⟩)]) ?_
  refine SL.v (.string (setS c ⟨#[36, 126]⟩)) ?_
  refine SL.v (.bool (setK c ⟨#[36, 126]⟩)) ?_
  refine SL.v (.string (setS c ⟨#[36, 126]⟩)) ?_
  refine SL.v (.bool (setK c ⟨#[36, 126]⟩)) ?_
  refine SL.nil ?_
  refine CW.seq ?_
  refine CW.region ?_
  refine SL.v (.string (setS c ⟨#[36, 126]⟩)) ?_
  refine SL.v (.string (setS c ⟨#[36, 126]⟩)) ?_
  refine SL.val (v := .bool false) (w' := w_235) rfl rfl (run_strneB (a := setS c ⟨#[36, 126]⟩) (b := setS c ⟨#[36, 126]⟩) (c := true) rfl (by kernel_rfl) (by kernel_rfl) (seqB_self _)) ?_
  refine SL.v (.bool false) ?_
  refine SL.on rfl rfl (by kernel_rfl) ?_
  refine SL.v (.bool (setK c ⟨#[36, 126]⟩)) ?_
  refine SL.on rfl rfl (by kernel_rfl) ?_
  refine SL.v (.bool (setK c ⟨#[36, 126]⟩)) ?_
  refine SL.on rfl rfl (by kernel_rfl) ?_
  refine SL.val (v := .bool false) (w' := w_235) rfl rfl (run_boolne (a := setK c ⟨#[36, 126]⟩) (b := setK c ⟨#[36, 126]⟩) (c := false) rfl (by kernel_rfl) (by kernel_rfl) (by kernel_rfl) (by cases (setK c ⟨#[36, 126]⟩) <;> rfl)) ?_
  refine SL.v (.bool false) ?_
  refine SL.nil ?_
  refine CW.cond_false (by kernel_rfl) ?_
  refine CW.skip ?_
  refine CW.region ?_
  refine SL.v (.int .i64 10) ?_
  refine SL.v (.int .i64 10) ?_
  refine SL.nil ?_
  refine CR.fresh (fun e9 => e9 0 = .agg (cdA c) ∧ e9 1 = .string id ∧ e9 2 = .pointer (some ⟨g_1, 0, none⟩) ∧ e9 4 = .bool false ∧ e9 11 = .bool true ∧ e9 12 = .bool false ∧ e9 13 = .agg (cdA c) ∧ e9 14 = .bool true ∧ e9 15 = .bool false ∧ e9 16 = .string id ∧ e9 17 = .slice (some ⟨g_10, 0, none⟩) 11 11 ∧ e9 18 = .int .i64 11 ∧ e9 19 = .int .i64 10) ⟨(by kernel_rfl), (by kernel_rfl), (by kernel_rfl), (by kernel_rfl), (by kernel_rfl), (by kernel_rfl), (by kernel_rfl), (by kernel_rfl), (by kernel_rfl), (by kernel_rfl), (by kernel_rfl), (by kernel_rfl), (by kernel_rfl)⟩ ?_
  rintro e_238 ⟨hv_240, hv_241, hv_242, hv_243, hv_244, hv_245, hv_246, hv_247, hv_248, hv_249, hv_250, hv_251, hv_252⟩
  obtain ⟨e_239, rfl⟩ : ∃ e_239, e_238 = put1 (put1 (put1 (put1 (put1 (put1 (put1 (put1 (put1 (put1 (put1 (put1 (put1 e_239 0 (.agg (cdA c))) 1 (.string id)) 2 (.pointer (some ⟨g_1, 0, none⟩))) 4 (.bool false)) 11 (.bool true)) 12 (.bool false)) 13 (.agg (cdA c))) 14 (.bool true)) 15 (.bool false)) 16 (.string id)) 17 (.slice (some ⟨g_10, 0, none⟩) 11 11)) 18 (.int .i64 11)) 19 (.int .i64 10) := ⟨e_238, (put_self hv_252).trans (congrArg (fun z => put1 z 19 (.int .i64 10)) ((put_self hv_251).trans (congrArg (fun z => put1 z 18 (.int .i64 11)) ((put_self hv_250).trans (congrArg (fun z => put1 z 17 (.slice (some ⟨g_10, 0, none⟩) 11 11)) ((put_self hv_249).trans (congrArg (fun z => put1 z 16 (.string id)) ((put_self hv_248).trans (congrArg (fun z => put1 z 15 (.bool false)) ((put_self hv_247).trans (congrArg (fun z => put1 z 14 (.bool true)) ((put_self hv_246).trans (congrArg (fun z => put1 z 13 (.agg (cdA c))) ((put_self hv_245).trans (congrArg (fun z => put1 z 12 (.bool false)) ((put_self hv_244).trans (congrArg (fun z => put1 z 11 (.bool true)) ((put_self hv_243).trans (congrArg (fun z => put1 z 4 (.bool false)) ((put_self hv_242).trans (congrArg (fun z => put1 z 2 (.pointer (some ⟨g_1, 0, none⟩))) ((put_self hv_241).trans (congrArg (fun z => put1 z 1 (.string id)) (put_self hv_240))))))))))))))))))))))))⟩
  clear hv_240 hv_241 hv_242 hv_243 hv_244 hv_245 hv_246 hv_247 hv_248 hv_249 hv_250 hv_251 hv_252
  refine CR.more ?_
  refine CW.seq ?_
  refine CW.region ?_
  refine SL.v (.bool true) ?_
  refine SL.nil ?_
  refine CW.seq ?_
  refine CW.cond_true (by kernel_rfl) ?_
  refine CW.skip ?_
  refine CW.seq ?_
  refine CW.block ?_
  refine CW.seq ?_
  refine CW.region ?_
  refine SL.v (.pointer (some ⟨g_10, 10, none⟩)) ?_
  refine SL.load (g := g_10) (off := 10) (v := .string ⟨#[36, 125]⟩) rfl rfl rfl (by kernel_rfl) (hs_237.pt_at (i := 1) rfl) (by kernel_rfl) ?_
  refine SL.v (.string ⟨#[36, 125]⟩) ?_
  refine SL.nil ?_
  refine CW.seq ?_
  refine CW.region ?_
  refine SL.load (g := g_1) (off := 0) (v := .agg (cdA c)) rfl rfl rfl (by kernel_rfl) (hs_237.pt_at (i := 0) rfl) (by kernel_rfl) ?_
  refine SL.call (f := 9) (args := #[.agg (cdA c)]) (w1 := w_235) rfl rfl (by kernel_rfl) (own19 c w_235 hm) ?_
  rintro x w_253 ⟨rfl, hc_254⟩
  refine ⟨.agg (cvA c), rfl, ?_⟩
  have hs_255 := hs_237.grow hc_254
  refine SL.v (.string ⟨#[36, 125]⟩) ?_
  refine SL.call (f := 14) (args := #[.agg (cvA c), .string ⟨#[36, 125]⟩]) (w1 := w_253) rfl rfl (by kernel_rfl) (set_any c ⟨#[36, 125]⟩ w_253 hok (hT.gr hs_255.gr)) ?_
  rintro x w_256 ⟨rfl, hc_257⟩
  refine ⟨.tuple #[.string (setS c ⟨#[36, 125]⟩), .bool (setK c ⟨#[36, 125]⟩)], rfl, ?_⟩
  have hs_258 := hs_255.grow hc_257
  refine SL.v (.tuple #[.string (setS c ⟨#[36, 125]⟩), .bool (setK c ⟨#[36, 125]⟩)]) ?_
  refine SL.v (.string (setS c ⟨#[36, 125]⟩)) ?_
  refine SL.v (.bool (setK c ⟨#[36, 125]⟩)) ?_
  refine SL.v (.string (setS c ⟨#[36, 125]⟩)) ?_
  refine SL.v (.bool (setK c ⟨#[36, 125]⟩)) ?_
  refine SL.nil ?_
  refine CW.seq ?_
  refine CW.region ?_
  refine SL.load (g := g_1) (off := 0) (v := .agg (cdA c)) rfl rfl rfl (by kernel_rfl) (hs_258.pt_at (i := 0) rfl) (by kernel_rfl) ?_
  refine SL.v (.string ⟨#[36, 125]⟩) ?_
  refine SL.call (f := 15) (args := #[.agg (cdA c), .string ⟨#[36, 125]⟩]) (w1 := w_256) rfl rfl (by kernel_rfl) (rset_any c ⟨#[36, 125]⟩ w_256 hok (hT.gr hs_258.gr)) ?_
  rintro x w_259 ⟨rfl, hc_260⟩
  refine ⟨.tuple #[.string (setS c ⟨#[36, 125]⟩), .bool (setK c ⟨#[36, 125]⟩)], rfl, ?_⟩
  have hs_261 := hs_258.grow hc_260
  refine SL.v (.tuple #[.string (setS c ⟨#[36, 125]⟩), .bool (setK c ⟨#[36, 125]⟩)]) ?_
  refine SL.v (.string (setS c ⟨#[36, 125]⟩)) ?_
  refine SL.v (.bool (setK c ⟨#[36, 125]⟩)) ?_
  refine SL.v (.string (setS c ⟨#[36, 125]⟩)) ?_
  refine SL.v (.bool (setK c ⟨#[36, 125]⟩)) ?_
  refine SL.nil ?_
  refine CW.seq ?_
  refine CW.region ?_
  refine SL.v (.string (setS c ⟨#[36, 125]⟩)) ?_
  refine SL.v (.string (setS c ⟨#[36, 125]⟩)) ?_
  refine SL.val (v := .bool false) (w' := w_259) rfl rfl (run_strneB (a := setS c ⟨#[36, 125]⟩) (b := setS c ⟨#[36, 125]⟩) (c := true) rfl (by kernel_rfl) (by kernel_rfl) (seqB_self _)) ?_
  refine SL.v (.bool false) ?_
  refine SL.on rfl rfl (by kernel_rfl) ?_
  refine SL.v (.bool (setK c ⟨#[36, 125]⟩)) ?_
  refine SL.on rfl rfl (by kernel_rfl) ?_
  refine SL.v (.bool (setK c ⟨#[36, 125]⟩)) ?_
  refine SL.on rfl rfl (by kernel_rfl) ?_
  refine SL.val (v := .bool false) (w' := w_259) rfl rfl (run_boolne (a := setK c ⟨#[36, 125]⟩) (b := setK c ⟨#[36, 125]⟩) (c := false) rfl (by kernel_rfl) (by kernel_rfl) (by kernel_rfl) (by cases (setK c ⟨#[36, 125]⟩) <;> rfl)) ?_
  refine SL.v (.bool false) ?_
  refine SL.nil ?_
  refine CW.cond_false (by kernel_rfl) ?_
  refine CW.skip ?_
  refine CW.region ?_
  refine SL.v (.int .i64 11) ?_
  refine SL.v (.int .i64 11) ?_
  refine SL.nil ?_
  refine CR.fresh (fun e9 => e9 0 = .agg (cdA c) ∧ e9 1 = .string id ∧ e9 2 = .pointer (some ⟨g_1, 0, none⟩) ∧ e9 4 = .bool false ∧ e9 11 = .bool true ∧ e9 12 = .bool false ∧ e9 13 = .agg (cdA c) ∧ e9 14 = .bool true ∧ e9 15 = .bool false ∧ e9 16 = .string id ∧ e9 17 = .slice (some ⟨g_10, 0, none⟩) 11 11 ∧ e9 18 = .int .i64 11 ∧ e9 19 = .int .i64 11) ⟨(by kernel_rfl), (by kernel_rfl), (by kernel_rfl), (by kernel_rfl), (by kernel_rfl), (by kernel_rfl), (by kernel_rfl), (by kernel_rfl), (by kernel_rfl), (by kernel_rfl), (by kernel_rfl), (by kernel_rfl), (by kernel_rfl)⟩ ?_
  rintro e_262 ⟨hv_264, hv_265, hv_266, hv_267, hv_268, hv_269, hv_270, hv_271, hv_272, hv_273, hv_274, hv_275, hv_276⟩
  obtain ⟨e_263, rfl⟩ : ∃ e_263, e_262 = put1 (put1 (put1 (put1 (put1 (put1 (put1 (put1 (put1 (put1 (put1 (put1 (put1 e_263 0 (.agg (cdA c))) 1 (.string id)) 2 (.pointer (some ⟨g_1, 0, none⟩))) 4 (.bool false)) 11 (.bool true)) 12 (.bool false)) 13 (.agg (cdA c))) 14 (.bool true)) 15 (.bool false)) 16 (.string id)) 17 (.slice (some ⟨g_10, 0, none⟩) 11 11)) 18 (.int .i64 11)) 19 (.int .i64 11) := ⟨e_262, (put_self hv_276).trans (congrArg (fun z => put1 z 19 (.int .i64 11)) ((put_self hv_275).trans (congrArg (fun z => put1 z 18 (.int .i64 11)) ((put_self hv_274).trans (congrArg (fun z => put1 z 17 (.slice (some ⟨g_10, 0, none⟩) 11 11)) ((put_self hv_273).trans (congrArg (fun z => put1 z 16 (.string id)) ((put_self hv_272).trans (congrArg (fun z => put1 z 15 (.bool false)) ((put_self hv_271).trans (congrArg (fun z => put1 z 14 (.bool true)) ((put_self hv_270).trans (congrArg (fun z => put1 z 13 (.agg (cdA c))) ((put_self hv_269).trans (congrArg (fun z => put1 z 12 (.bool false)) ((put_self hv_268).trans (congrArg (fun z => put1 z 11 (.bool true)) ((put_self hv_267).trans (congrArg (fun z => put1 z 4 (.bool false)) ((put_self hv_266).trans (congrArg (fun z => put1 z 2 (.pointer (some ⟨g_1, 0, none⟩))) ((put_self hv_265).trans (congrArg (fun z => put1 z 1 (.string id)) (put_self hv_264))))))))))))))))))))))))⟩
  clear hv_264 hv_265 hv_266 hv_267 hv_268 hv_269 hv_270 hv_271 hv_272 hv_273 hv_274 hv_275 hv_276
  refine CR.more ?_
  refine CW.seq ?_
  refine CW.region ?_
  refine SL.v (.bool false) ?_
  refine SL.nil ?_
  refine CW.seq ?_
  refine CW.cond_false (by kernel_rfl) ?_
  refine CW.exit ?_
  repeat with_reducible first | refine PThen.exit ?_ | refine PBlock.out rfl ?_
  with_reducible refine PBlock.here ?_
  repeat with_reducible refine PBlock.normal ?_
  refine CW.seq ?_
  refine CW.region ?_
  refine SL.v (.bool true) ?_
  refine SL.nil ?_
  refine CW.ret ?_
  repeat with_reducible first | refine PThen.ret ?_ | refine PBlock.ret ?_
  refine PRet.tmp (t := 4) (v := .bool true) rfl rfl (by kernel_rfl) ?_
  exact ⟨rfl, hs_261.gr⟩
set_option maxRecDepth 100000 in
set_option maxHeartbeats 4000000 in
theorem sett_no (c : Cor) (id : ByteArray) (w : World) (hT : tabT w) (hsm : smallZ c = false) : Calls Tryd.prog 4 #[.agg (cdA c), .string id] w fun e w' => e = .returned (.bool true) ∧ Gr w w' := by
  refine calls_sx (n := 45) (args := [.agg (cdA c), .string id]) Tryd.func4 rfl rfl rfl ?_
  have hs0 := SH.none w
  refine CW.seq ?_
  refine CW.region ?_
  refine SL.newH (mk := fun g => .pointer (some ⟨g, 0, none⟩)) (C := (cdA c)) (T := 33) hs0 rfl rfl (by kernel_rfl) (fun g_1 w_2 hs_3 => ?_)
  have hs_3 : SH [] w w_2 [pt g_1 (cdA c) 33] := hs_3
  refine SL.v (.bool false) ?_
  refine SL.nil ?_
  refine CW.seq ?_
  refine CW.seq ?_
  refine CW.region ?_
  refine SL.call (f := 6) (args := #[]) (w1 := w_2) rfl rfl (by kernel_rfl) (awake_19 w_2 (hT.gr hs_3.gr)) ?_
  rintro x w_4 ⟨rfl, hc_5⟩
  refine ⟨.bool true, rfl, ?_⟩
  have hs_6 := hs_3.grow hc_5
  refine SL.v (.bool false) ?_
  refine SL.nil ?_
  refine CW.cond_false (by kernel_rfl) ?_
  refine CW.skip ?_
  refine CW.seq ?_
  refine CW.seq ?_
  refine CW.region ?_
  refine SL.load (g := g_1) (off := 0) (v := .agg (cdA c)) rfl rfl rfl (by kernel_rfl) (hs_6.pt_at (i := 0) rfl) (by kernel_rfl) ?_
  refine SL.call (f := 7) (args := #[.agg (cdA c)]) (w1 := w_4) rfl rfl (by kernel_rfl) (hsm ▸ small_any c w_4) ?_
  rintro x w_7 ⟨rfl, hc_8⟩
  refine ⟨.bool false, rfl, ?_⟩
  have hs_9 := hs_6.grow hc_8
  refine SL.v (.bool true) ?_
  refine SL.nil ?_
  refine CW.cond_true (by kernel_rfl) ?_
  refine CW.seq ?_
  refine CW.region ?_
  refine SL.v (.bool true) ?_
  refine SL.nil ?_
  refine CW.ret ?_
  repeat with_reducible first | refine PThen.ret ?_ | refine PBlock.ret ?_
  refine PRet.tmp (t := 4) (v := .bool true) rfl rfl (by kernel_rfl) ?_
  exact ⟨rfl, hs_9.gr⟩
theorem tab_Cleans {w : World} (h : laidMetH Tryd.prog Rows.stateCleansRow.laid w) : tabT w := by
  unfold Rows.stateCleansRow at h
  rw [MakeChecks.laidMetH_plain _ _ _ (by kernel_rfl)] at h
  exact tabT_met19 (laidMet_tail2 (laidMet_tail2 h))
theorem tab_Settings {w : World} (h : laidMetH Tryd.prog Rows.stateSettingsRow.laid w) : tabT w := by
  unfold Rows.stateSettingsRow at h
  rw [MakeChecks.laidMetH_plain _ _ _ (by kernel_rfl)] at h
  exact tabT_met19 (laidMet_tail2 (laidMet_tail2 h))
theorem small_modes {c : Cor} (h : smallZ c = true) : 0 ≤ c.modes ∧ c.modes < 4294967296 := by
  unfold smallZ at h; simp at h; omega
theorem Cor.In.toOk {c : Cor} (h : c.In) (hs : smallZ c = true) : c.Ok := h.ok c.modes (small_modes hs)
theorem cleans_law (c : Cor) (rows cols : Int) (w : World) (h0 : c.In) (h1 : (Lit.int .i64 rows).wf = true) (h2 : (Lit.int .i64 cols).wf = true) (hlaid : laidMetH Tryd.prog Rows.stateCleansRow.laid w) (hsh : w.ShapedOpen Tryd.prog) :
    Calls Tryd.prog 3 #[c.d, .int .i64 rows, .int .i64 cols] w fun e w' => e = .returned (.bool true) ∧ Gr w w' := by
  have hT := tab_Cleans hlaid
  cases hs : smallZ c with
  | true => exact cleans_yes c rows cols w (fun W hg => awake_19 W (hT.gr hg)) (h0.toOk hs) hs (i6w (bounds_i64 h1)) (i6w (bounds_i64 h2))
  | false => exact cleans_no c rows cols w (fun W hg => awake_19 W (hT.gr hg)) hs
theorem sett_law (c : Cor) (id : ByteArray) (w : World) (h0 : c.In) (h1 : id.size ≤ maxLen) (hlaid : laidMetH Tryd.prog Rows.stateSettingsRow.laid w) (hsh : w.ShapedOpen Tryd.prog) :
    Calls Tryd.prog 4 #[c.d, .string id] w fun e w' => e = .returned (.bool true) ∧ Gr w w' := by
  have hT := tab_Settings hlaid
  cases hs : smallZ c with
  | true => exact sett_yes c id w hT (h0.toOk hs) hs
  | false => exact sett_no c id w hT hs
end Go.Proofs.YtfkecgkfcldffaaDoor
