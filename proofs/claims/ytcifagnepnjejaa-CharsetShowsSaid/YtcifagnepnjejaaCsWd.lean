/-
  The fixed fact at the head of each law on sets of characters; and what the other functions of the sets compute.
-/
import Derived.Test.YtcifagnepnjejaaCsWc
namespace Go.Proofs.Ytcifagnepnjejaa
open Go.RowKit

theorem xor128 (c : Int) (h0 : 0 ≤ c) (h1 : c < 256) : 0 ≤ bits BinOp.xor IntKind.u8 c 128 ∧ bits BinOp.xor IntKind.u8 c 128 < 256 ∧ bits BinOp.xor IntKind.u8 c 128 % 128 = c % 128 := by
  have H : ∀ k : Fin 256, 0 ≤ bits BinOp.xor IntKind.u8 (k.val : Int) 128 ∧ bits BinOp.xor IntKind.u8 (k.val : Int) 128 < 256 ∧ bits BinOp.xor IntKind.u8 (k.val : Int) 128 % 128 = (k.val : Int) % 128 := by decide +kernel
  have := H ⟨c.toNat, by omega⟩
  simpa [Int.toNat_of_nonneg h0] using this

set_option maxRecDepth 100000 in
set_option maxHeartbeats 1000000 in
theorem awake09 (w : World) :
    Calls Try.prog 8 #[] w fun e w' => e = .returned (.bool true) ∧ Gr w w' := by
  have g1 : Gl 2 113 = 9472 := by decide +kernel
  have g2 : Gl 11 126 = 223 := by decide +kernel
  have g3 : Gl 1 65 = 65 := by decide +kernel
  go_enter Try.func8, Try.ntmps8
  go_wp2_with (first
    | (go_at_call 9; refine (glyph_any _ _ _ (by decide) (by decide)).mono ?_; rintro e w' ⟨rfl, hbw⟩)
    | (go_at_call 19; go_in))
  go_ret
  exact ⟨rfl, by (repeat (first | exact Gr.refl _ | assumption | refine Gr.alloc ?_ _ | refine Gr.drew ?_ | refine Gr.drewN ?_ _ | refine Gr.trans ?_ (by assumption)))⟩

set_option maxRecDepth 100000 in
set_option maxHeartbeats 1000000 in
theorem glyphs_law (n c : Int) (w : World) (h0 : 0 ≤ c) (h1 : c < 256) :
    Calls Try.prog 3 #[.int .i64 n, .int .u8 c] w fun e w' => e = .returned (.bool true) ∧ Gr w w' := by
  obtain ⟨x0, x1, x2⟩ := xor128 c h0 h1
  have g1 := gl_eq n (c % 128) (by omega) (by omega)
  go_enter Try.func3, Try.ntmps3
  go_wp2_with (first
    | (go_at_call 8; refine (awake09 _).mono ?_; rintro e w' ⟨rfl, hbw⟩)
    | (go_at_call 9; refine (glyph_any _ _ _ (by omega) (by omega)).mono ?_; rintro e w' ⟨rfl, hbw⟩)
    | (go_at_call 10; refine (rglyph_any _ _ _ (by omega) (by omega)).mono ?_; rintro e w' ⟨rfl, hbw⟩))
  go_ret
  exact ⟨rfl, by (repeat (first | exact Gr.refl _ | assumption | refine Gr.alloc ?_ _ | refine Gr.drew ?_ | refine Gr.drewN ?_ _ | refine Gr.trans ?_ (by assumption)))⟩
end Go.Proofs.Ytcifagnepnjejaa
