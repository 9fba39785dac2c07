/-
  The law on what is shifted to for one character.
-/
import Derived.Test.YtomflpkokcldeaaIsG
import Derived.Test.YtomflpkokcldeaaLw3
import Derived.OpenShut
namespace Go.Proofs.Ytomflpkokcldeaa
open Go.RowKit

set_option linter.unusedVariables false

theorem fldS0 (a b c d e f g : Value) (w : World) : (Instr.field 27 (.agg #[a, b, c, d, e, f, g]) 0).run Try.prog w = .ok (.agg #[a, b, c, d]) w := by kernel_rfl
theorem fldS1 (a b c d e f g : Value) (w : World) : (Instr.field 27 (.agg #[a, b, c, d, e, f, g]) 1).run Try.prog w = .ok e w := by kernel_rfl
theorem fldS2 (a b c d e f g : Value) (w : World) : (Instr.field 27 (.agg #[a, b, c, d, e, f, g]) 2).run Try.prog w = .ok f w := by kernel_rfl
theorem fldS3 (a b c d e f g : Value) (w : World) : (Instr.field 27 (.agg #[a, b, c, d, e, f, g]) 3).run Try.prog w = .ok g w := by kernel_rfl

set_option maxRecDepth 100000 in
set_option maxHeartbeats 2000000 in
theorem once_short (g0 g1 g2 g3 gl gr si g : Int) (a : Option Addr) (len cap : Nat) (w : World) (h : len < 2) :
    Calls Try.prog 3 #[.agg #[.int .i64 g0, .int .i64 g1, .int .i64 g2, .int .i64 g3, .int .i64 gl, .int .i64 gr, .int .i64 si], .int .i64 g, .slice a len cap] w fun e w' => e = .returned (.bool true) ∧ Gr w w' := by
  have hl : decide (len < 2) = true := by simp [h]
  go_enter Try.func3, Try.ntmps3
  go_wp2_with (go_at_call 7; refine (awake10 _).mono ?_; rintro e w1 ⟨rfl, hb1⟩)
  go_ret
  exact ⟨rfl, by (repeat (first | with_reducible (refine Gr.setCell ?_ ?hp _; case hp => (simp; try omega)) | with_reducible refine Gr.alloc ?_ _ | with_reducible refine Gr.drew ?_ | with_reducible refine Gr.drewN ?_ _ | with_reducible assumption | with_reducible exact Gr.refl _ | with_reducible refine Gr.trans ?_ (by assumption)))⟩

set_option maxRecDepth 100000 in
set_option maxHeartbeats 2000000 in
theorem once_out (g0 g1 g2 g3 gl gr si g : Int) (b off : Nat) (len cap : Nat) (A B : Int) (w : World) (h : ¬ len < 2) (hA : w.cell? ⟨b, off, none⟩ = some (.int .u8 A)) (hB : w.cell? ⟨b, off + 1, none⟩ = some (.int .u8 B))
    (a0 : 0 ≤ A) (a1 : A < 256) (b0 : 0 ≤ B) (b1 : B < 256) (hg : g < 2 ∨ 3 < g) :
    Calls Try.prog 3 #[.agg #[.int .i64 g0, .int .i64 g1, .int .i64 g2, .int .i64 g3, .int .i64 gl, .int .i64 gr, .int .i64 si], .int .i64 g, .slice (some ⟨b, off, none⟩) len cap] w fun e w' => e = .returned (.bool true) ∧ Gr w w' := by
  have hb : between 2 3 g = false := by simp [between]; omega
  have l0 : (0 : Int) < (len : Int) := by omega
  have l1 : (1 : Int) < (len : Int) := by omega
  have f3 := fldS3
  have hs : selI false g 0 = 0 := rfl
  rcases hg with hg | hg
  all_goals
    go_enter Try.func3, Try.ntmps3
    go_wp2_with (first
      | (go_at_call 7; refine (awake10 _).mono ?_; rintro e w1 ⟨rfl, hb1⟩))
    have hw1 : Gr w w1 := by (repeat (first | with_reducible (refine Gr.setCell ?_ ?hp _; case hp => (simp; try omega)) | with_reducible refine Gr.alloc ?_ _ | with_reducible refine Gr.drew ?_ | with_reducible refine Gr.drewN ?_ _ | with_reducible assumption | with_reducible exact Gr.refl _ | with_reducible refine Gr.trans ?_ (by assumption)))
    have cA := hw1.cellAt hA
    have cB := hw1.cellAt hB
    have q := cells7 hb1.keep
    go_region
    go_wp2_with (first
      | (go_at_call 8; refine (own10_any _ _ _ _ _ _ _ _).mono ?_; rintro e w1 ⟨rfl, hb1⟩)
      | (go_at_call 9; refine (once_any _ _ _ _ _ _ _ _ _).mono ?_; rintro e w1 ⟨rfl, hb1⟩)
      | (go_at_call 10; refine (map_any _ _ _ _ _ _ _ _ _ (by omega) (by omega)).mono ?_; rintro e w1 ⟨rfl, hb1⟩)
      | (go_at_call 11; refine (rmap_any _ _ _ _ _ _ _ _ _ (by omega) (by omega)).mono ?_; rintro e w1 ⟨rfl, hb1⟩)
      | (go_at_call 12; refine (invo_any _ _ _ _ _ _ _ _ _).mono ?_; rintro e w1 ⟨rfl, hb1⟩))
    go_ret
    exact ⟨rfl, by (repeat (first | with_reducible (refine Gr.setCell ?_ ?hp _; case hp => (simp; try omega)) | with_reducible refine Gr.alloc ?_ _ | with_reducible refine Gr.drew ?_ | with_reducible refine Gr.drewN ?_ _ | with_reducible assumption | with_reducible exact Gr.refl _ | with_reducible refine Gr.trans ?_ (by assumption)))⟩

set_option maxRecDepth 100000 in
set_option maxHeartbeats 2000000 in
theorem once_ctrl2 (g0 g1 g2 g3 gl gr si : Int) (b off : Nat) (len cap : Nat) (A B : Int) (w : World) (h : ¬ len < 2) (hA : w.cell? ⟨b, off, none⟩ = some (.int .u8 A)) (hB : w.cell? ⟨b, off + 1, none⟩ = some (.int .u8 B))
    (a0 : 0 ≤ A) (a1 : A < 256) (b0 : 0 ≤ B) (b1 : B < 256) (hc : A % 128 < 32) :
    Calls Try.prog 3 #[.agg #[.int .i64 g0, .int .i64 g1, .int .i64 g2, .int .i64 g3, .int .i64 gl, .int .i64 gr, .int .i64 si], .int .i64 2, .slice (some ⟨b, off, none⟩) len cap] w fun e w' => e = .returned (.bool true) ∧ Gr w w' := by
  have hb : between 2 3 2 = true := rfl
  have l0 : (0 : Int) < (len : Int) := by omega
  have l1 : (1 : Int) < (len : Int) := by omega
  have f3 := fldS3
  have hs : selI true 2 0 = 2 := rfl
  have hm := and127 A a0 a1
  obtain ⟨d, hd⟩ : ∃ d, d = A % 128 := ⟨_, rfl⟩
  rw [← hd] at hm hc
  clear hd
  · 
    go_enter Try.func3, Try.ntmps3
    go_wp2_with (first
      | (go_at_call 7; refine (awake10 _).mono ?_; rintro e w1 ⟨rfl, hb1⟩))
    have hw1 : Gr w w1 := by (repeat (first | with_reducible (refine Gr.setCell ?_ ?hp _; case hp => (simp; try omega)) | with_reducible refine Gr.alloc ?_ _ | with_reducible refine Gr.drew ?_ | with_reducible refine Gr.drewN ?_ _ | with_reducible assumption | with_reducible exact Gr.refl _ | with_reducible refine Gr.trans ?_ (by assumption)))
    have cA := hw1.cellAt hA
    have cB := hw1.cellAt hB
    have q := cells7 hb1.keep
    go_region
    go_wp2_with (first
      | (go_at_call 8; refine (own10_any _ _ _ _ _ _ _ _).mono ?_; rintro e w1 ⟨rfl, hb1⟩)
      | (go_at_call 9; refine (once_any _ _ _ _ _ _ _ _ _).mono ?_; rintro e w1 ⟨rfl, hb1⟩)
      | (go_at_call 10; refine (map_any _ _ _ _ _ _ _ _ _ (by omega) (by omega)).mono ?_; rintro e w1 ⟨rfl, hb1⟩)
      | (go_at_call 11; refine (rmap_any _ _ _ _ _ _ _ _ _ (by omega) (by omega)).mono ?_; rintro e w1 ⟨rfl, hb1⟩)
      | (go_at_call 12; refine (invo_any _ _ _ _ _ _ _ _ _).mono ?_; rintro e w1 ⟨rfl, hb1⟩))
    go_ret
    exact ⟨rfl, by (repeat (first | with_reducible (refine Gr.setCell ?_ ?hp _; case hp => (simp; try omega)) | with_reducible refine Gr.alloc ?_ _ | with_reducible refine Gr.drew ?_ | with_reducible refine Gr.drewN ?_ _ | with_reducible assumption | with_reducible exact Gr.refl _ | with_reducible refine Gr.trans ?_ (by assumption)))⟩

set_option maxRecDepth 100000 in
set_option maxHeartbeats 2000000 in
theorem once_map2 (g0 g1 g2 g3 gl gr si : Int) (b off : Nat) (len cap : Nat) (A B : Int) (w : World) (h : ¬ len < 2) (hA : w.cell? ⟨b, off, none⟩ = some (.int .u8 A)) (hB : w.cell? ⟨b, off + 1, none⟩ = some (.int .u8 B))
    (a0 : 0 ≤ A) (a1 : A < 256) (b0 : 0 ≤ B) (b1 : B < 256) (hc : ¬ A % 128 < 32) :
    Calls Try.prog 3 #[.agg #[.int .i64 g0, .int .i64 g1, .int .i64 g2, .int .i64 g3, .int .i64 gl, .int .i64 gr, .int .i64 si], .int .i64 2, .slice (some ⟨b, off, none⟩) len cap] w fun e w' => e = .returned (.bool true) ∧ Gr w w' := by
  have hb : between 2 3 2 = true := rfl
  have l0 : (0 : Int) < (len : Int) := by omega
  have l1 : (1 : Int) < (len : Int) := by omega
  have f3 := fldS3
  have hs : selI true 2 0 = 2 := rfl
  have hm := and127 A a0 a1
  have he := fun a0 a1 a2 a3 a4 a5 a6 b0 b1 b2 b3 b4 b5 b6 w => eq_st 27 (.inl rfl) a0 a1 a2 a3 a4 a5 a6 b0 b1 b2 b3 b4 b5 b6 w
  have hr := stEq_refl
  have hdc : decide (A % 128 < 32) = false := by simp; omega
  have hd7 : decide ((7 : Int) % 128 < 32) = true := by decide
  have hss : ∀ x y, selI false x y = y := fun _ _ => rfl
  have hst : ∀ x y, selI true x y = x := fun _ _ => rfl
  obtain ⟨d, hd⟩ : ∃ d, d = A % 128 := ⟨_, rfl⟩
  · 
    go_enter Try.func3, Try.ntmps3
    go_wp2_with (first
      | (go_at_call 7; refine (awake10 _).mono ?_; rintro e w1 ⟨rfl, hb1⟩))
    have hw1 : Gr w w1 := by (repeat (first | with_reducible (refine Gr.setCell ?_ ?hp _; case hp => (simp; try omega)) | with_reducible refine Gr.alloc ?_ _ | with_reducible refine Gr.drew ?_ | with_reducible refine Gr.drewN ?_ _ | with_reducible assumption | with_reducible exact Gr.refl _ | with_reducible refine Gr.trans ?_ (by assumption)))
    have cA := hw1.cellAt hA
    have cB := hw1.cellAt hB
    have q := cells7 hb1.keep
    have hlt1 := hb1.lt
    go_region
    go_wp2_with fail
    refine (own10_any _ _ _ _ _ _ _ _).mono ?_
    rintro e w2 ⟨rfl, hb2⟩
    obtain ⟨hc2, hf2, hz2⟩ := hb2.facts
    try simp at hz2
    try have : w.heap.size < w2.heap.size := by omega
    try have : w1.heap.size < w2.heap.size := by omega
    go_wp2_with fail
    refine (once_any _ _ _ _ _ _ _ _ _).mono ?_
    rintro e w3 ⟨rfl, hb3⟩
    obtain ⟨hc3, hf3, hz3⟩ := hb3.facts
    try simp at hz3
    try have : w.heap.size < w3.heap.size := by omega
    try have : w1.heap.size < w3.heap.size := by omega
    try have : w2.heap.size < w3.heap.size := by omega
    go_wp2_with fail
    refine (map_any _ _ _ _ _ _ _ _ _ (by omega) (by omega)).mono ?_
    rintro e w4 ⟨rfl, hb4⟩
    obtain ⟨hc4, hf4, hz4⟩ := hb4.facts
    try simp at hz4
    try have : w.heap.size < w4.heap.size := by omega
    try have : w1.heap.size < w4.heap.size := by omega
    try have : w2.heap.size < w4.heap.size := by omega
    try have : w3.heap.size < w4.heap.size := by omega
    go_wp2_with fail
    refine (map_any _ _ _ _ _ _ _ _ _ (by omega) (by omega)).mono ?_
    rintro e w5 ⟨rfl, hb5⟩
    obtain ⟨hc5, hf5, hz5⟩ := hb5.facts
    try simp at hz5
    try have : w.heap.size < w5.heap.size := by omega
    try have : w1.heap.size < w5.heap.size := by omega
    try have : w2.heap.size < w5.heap.size := by omega
    try have : w3.heap.size < w5.heap.size := by omega
    try have : w4.heap.size < w5.heap.size := by omega
    go_wp2_with fail
    refine (map_any _ _ _ _ _ _ _ _ _ (by omega) (by omega)).mono ?_
    rintro e w6 ⟨rfl, hb6⟩
    obtain ⟨hc6, hf6, hz6⟩ := hb6.facts
    try simp at hz6
    try have : w.heap.size < w6.heap.size := by omega
    try have : w1.heap.size < w6.heap.size := by omega
    try have : w2.heap.size < w6.heap.size := by omega
    try have : w3.heap.size < w6.heap.size := by omega
    try have : w4.heap.size < w6.heap.size := by omega
    try have : w5.heap.size < w6.heap.size := by omega
    go_wp2_with fail
    refine (once_any _ _ _ _ _ _ _ _ _).mono ?_
    rintro e w7 ⟨rfl, hb7⟩
    obtain ⟨hc7, hf7, hz7⟩ := hb7.facts
    try simp at hz7
    try have : w.heap.size < w7.heap.size := by omega
    try have : w1.heap.size < w7.heap.size := by omega
    try have : w2.heap.size < w7.heap.size := by omega
    try have : w3.heap.size < w7.heap.size := by omega
    try have : w4.heap.size < w7.heap.size := by omega
    try have : w5.heap.size < w7.heap.size := by omega
    try have : w6.heap.size < w7.heap.size := by omega
    go_wp2_with fail
    refine (map_any _ _ _ _ _ _ _ _ _ (by omega) (by omega)).mono ?_
    rintro e w8 ⟨rfl, hb8⟩
    obtain ⟨hc8, hf8, hz8⟩ := hb8.facts
    try simp at hz8
    try have : w.heap.size < w8.heap.size := by omega
    try have : w1.heap.size < w8.heap.size := by omega
    try have : w2.heap.size < w8.heap.size := by omega
    try have : w3.heap.size < w8.heap.size := by omega
    try have : w4.heap.size < w8.heap.size := by omega
    try have : w5.heap.size < w8.heap.size := by omega
    try have : w6.heap.size < w8.heap.size := by omega
    try have : w7.heap.size < w8.heap.size := by omega
    go_wp2_with fail
    refine (invo_any _ _ _ _ _ _ _ _ _).mono ?_
    rintro e w9 ⟨rfl, hb9⟩
    obtain ⟨hc9, hf9, hz9⟩ := hb9.facts
    try simp at hz9
    try have : w.heap.size < w9.heap.size := by omega
    try have : w1.heap.size < w9.heap.size := by omega
    try have : w2.heap.size < w9.heap.size := by omega
    try have : w3.heap.size < w9.heap.size := by omega
    try have : w4.heap.size < w9.heap.size := by omega
    try have : w5.heap.size < w9.heap.size := by omega
    try have : w6.heap.size < w9.heap.size := by omega
    try have : w7.heap.size < w9.heap.size := by omega
    try have : w8.heap.size < w9.heap.size := by omega
    go_wp2_with fail
    refine (rmap_any _ _ _ _ _ _ _ _ _ (by omega) (by omega)).mono ?_
    rintro e w10 ⟨rfl, hb10⟩
    obtain ⟨hc10, hf10, hz10⟩ := hb10.facts
    try simp at hz10
    try have : w.heap.size < w10.heap.size := by omega
    try have : w1.heap.size < w10.heap.size := by omega
    try have : w2.heap.size < w10.heap.size := by omega
    try have : w3.heap.size < w10.heap.size := by omega
    try have : w4.heap.size < w10.heap.size := by omega
    try have : w5.heap.size < w10.heap.size := by omega
    try have : w6.heap.size < w10.heap.size := by omega
    try have : w7.heap.size < w10.heap.size := by omega
    try have : w8.heap.size < w10.heap.size := by omega
    try have : w9.heap.size < w10.heap.size := by omega
    go_wp2
    go_ret
    exact ⟨rfl, by (repeat (first | with_reducible (refine Gr.setCell ?_ ?hp _; case hp => (simp; try omega)) | with_reducible refine Gr.alloc ?_ _ | with_reducible refine Gr.drew ?_ | with_reducible refine Gr.drewN ?_ _ | with_reducible assumption | with_reducible exact Gr.refl _ | with_reducible refine Gr.trans ?_ (by assumption)))⟩

set_option maxRecDepth 100000 in
set_option maxHeartbeats 2000000 in
theorem once_ctrl3 (g0 g1 g2 g3 gl gr si : Int) (b off : Nat) (len cap : Nat) (A B : Int) (w : World) (h : ¬ len < 2) (hA : w.cell? ⟨b, off, none⟩ = some (.int .u8 A)) (hB : w.cell? ⟨b, off + 1, none⟩ = some (.int .u8 B))
    (a0 : 0 ≤ A) (a1 : A < 256) (b0 : 0 ≤ B) (b1 : B < 256) (hc : A % 128 < 32) :
    Calls Try.prog 3 #[.agg #[.int .i64 g0, .int .i64 g1, .int .i64 g2, .int .i64 g3, .int .i64 gl, .int .i64 gr, .int .i64 si], .int .i64 3, .slice (some ⟨b, off, none⟩) len cap] w fun e w' => e = .returned (.bool true) ∧ Gr w w' := by
  have hb : between 2 3 3 = true := rfl
  have l0 : (0 : Int) < (len : Int) := by omega
  have l1 : (1 : Int) < (len : Int) := by omega
  have f3 := fldS3
  have hs : selI true 3 0 = 3 := rfl
  have hm := and127 A a0 a1
  obtain ⟨d, hd⟩ : ∃ d, d = A % 128 := ⟨_, rfl⟩
  rw [← hd] at hm hc
  clear hd
  · 
    go_enter Try.func3, Try.ntmps3
    go_wp2_with (first
      | (go_at_call 7; refine (awake10 _).mono ?_; rintro e w1 ⟨rfl, hb1⟩))
    have hw1 : Gr w w1 := by (repeat (first | with_reducible (refine Gr.setCell ?_ ?hp _; case hp => (simp; try omega)) | with_reducible refine Gr.alloc ?_ _ | with_reducible refine Gr.drew ?_ | with_reducible refine Gr.drewN ?_ _ | with_reducible assumption | with_reducible exact Gr.refl _ | with_reducible refine Gr.trans ?_ (by assumption)))
    have cA := hw1.cellAt hA
    have cB := hw1.cellAt hB
    have q := cells7 hb1.keep
    go_region
    go_wp2_with (first
      | (go_at_call 8; refine (own10_any _ _ _ _ _ _ _ _).mono ?_; rintro e w1 ⟨rfl, hb1⟩)
      | (go_at_call 9; refine (once_any _ _ _ _ _ _ _ _ _).mono ?_; rintro e w1 ⟨rfl, hb1⟩)
      | (go_at_call 10; refine (map_any _ _ _ _ _ _ _ _ _ (by omega) (by omega)).mono ?_; rintro e w1 ⟨rfl, hb1⟩)
      | (go_at_call 11; refine (rmap_any _ _ _ _ _ _ _ _ _ (by omega) (by omega)).mono ?_; rintro e w1 ⟨rfl, hb1⟩)
      | (go_at_call 12; refine (invo_any _ _ _ _ _ _ _ _ _).mono ?_; rintro e w1 ⟨rfl, hb1⟩))
    go_ret
    exact ⟨rfl, by (repeat (first | with_reducible (refine Gr.setCell ?_ ?hp _; case hp => (simp; try omega)) | with_reducible refine Gr.alloc ?_ _ | with_reducible refine Gr.drew ?_ | with_reducible refine Gr.drewN ?_ _ | with_reducible assumption | with_reducible exact Gr.refl _ | with_reducible refine Gr.trans ?_ (by assumption)))⟩

set_option maxRecDepth 100000 in
set_option maxHeartbeats 2000000 in
theorem once_map3 (g0 g1 g2 g3 gl gr si : Int) (b off : Nat) (len cap : Nat) (A B : Int) (w : World) (h : ¬ len < 2) (hA : w.cell? ⟨b, off, none⟩ = some (.int .u8 A)) (hB : w.cell? ⟨b, off + 1, none⟩ = some (.int .u8 B))
    (a0 : 0 ≤ A) (a1 : A < 256) (b0 : 0 ≤ B) (b1 : B < 256) (hc : ¬ A % 128 < 32) :
    Calls Try.prog 3 #[.agg #[.int .i64 g0, .int .i64 g1, .int .i64 g2, .int .i64 g3, .int .i64 gl, .int .i64 gr, .int .i64 si], .int .i64 3, .slice (some ⟨b, off, none⟩) len cap] w fun e w' => e = .returned (.bool true) ∧ Gr w w' := by
  have hb : between 2 3 3 = true := rfl
  have l0 : (0 : Int) < (len : Int) := by omega
  have l1 : (1 : Int) < (len : Int) := by omega
  have f3 := fldS3
  have hs : selI true 3 0 = 3 := rfl
  have hm := and127 A a0 a1
  have he := fun a0 a1 a2 a3 a4 a5 a6 b0 b1 b2 b3 b4 b5 b6 w => eq_st 27 (.inl rfl) a0 a1 a2 a3 a4 a5 a6 b0 b1 b2 b3 b4 b5 b6 w
  have hr := stEq_refl
  have hdc : decide (A % 128 < 32) = false := by simp; omega
  have hd7 : decide ((7 : Int) % 128 < 32) = true := by decide
  have hss : ∀ x y, selI false x y = y := fun _ _ => rfl
  have hst : ∀ x y, selI true x y = x := fun _ _ => rfl
  obtain ⟨d, hd⟩ : ∃ d, d = A % 128 := ⟨_, rfl⟩
  · 
    go_enter Try.func3, Try.ntmps3
    go_wp2_with (first
      | (go_at_call 7; refine (awake10 _).mono ?_; rintro e w1 ⟨rfl, hb1⟩))
    have hw1 : Gr w w1 := by (repeat (first | with_reducible (refine Gr.setCell ?_ ?hp _; case hp => (simp; try omega)) | with_reducible refine Gr.alloc ?_ _ | with_reducible refine Gr.drew ?_ | with_reducible refine Gr.drewN ?_ _ | with_reducible assumption | with_reducible exact Gr.refl _ | with_reducible refine Gr.trans ?_ (by assumption)))
    have cA := hw1.cellAt hA
    have cB := hw1.cellAt hB
    have q := cells7 hb1.keep
    have hlt1 := hb1.lt
    go_region
    go_wp2_with fail
    refine (own10_any _ _ _ _ _ _ _ _).mono ?_
    rintro e w2 ⟨rfl, hb2⟩
    obtain ⟨hc2, hf2, hz2⟩ := hb2.facts
    try simp at hz2
    try have : w.heap.size < w2.heap.size := by omega
    try have : w1.heap.size < w2.heap.size := by omega
    go_wp2_with fail
    refine (once_any _ _ _ _ _ _ _ _ _).mono ?_
    rintro e w3 ⟨rfl, hb3⟩
    obtain ⟨hc3, hf3, hz3⟩ := hb3.facts
    try simp at hz3
    try have : w.heap.size < w3.heap.size := by omega
    try have : w1.heap.size < w3.heap.size := by omega
    try have : w2.heap.size < w3.heap.size := by omega
    go_wp2_with fail
    refine (map_any _ _ _ _ _ _ _ _ _ (by omega) (by omega)).mono ?_
    rintro e w4 ⟨rfl, hb4⟩
    obtain ⟨hc4, hf4, hz4⟩ := hb4.facts
    try simp at hz4
    try have : w.heap.size < w4.heap.size := by omega
    try have : w1.heap.size < w4.heap.size := by omega
    try have : w2.heap.size < w4.heap.size := by omega
    try have : w3.heap.size < w4.heap.size := by omega
    go_wp2_with fail
    refine (map_any _ _ _ _ _ _ _ _ _ (by omega) (by omega)).mono ?_
    rintro e w5 ⟨rfl, hb5⟩
    obtain ⟨hc5, hf5, hz5⟩ := hb5.facts
    try simp at hz5
    try have : w.heap.size < w5.heap.size := by omega
    try have : w1.heap.size < w5.heap.size := by omega
    try have : w2.heap.size < w5.heap.size := by omega
    try have : w3.heap.size < w5.heap.size := by omega
    try have : w4.heap.size < w5.heap.size := by omega
    go_wp2_with fail
    refine (map_any _ _ _ _ _ _ _ _ _ (by omega) (by omega)).mono ?_
    rintro e w6 ⟨rfl, hb6⟩
    obtain ⟨hc6, hf6, hz6⟩ := hb6.facts
    try simp at hz6
    try have : w.heap.size < w6.heap.size := by omega
    try have : w1.heap.size < w6.heap.size := by omega
    try have : w2.heap.size < w6.heap.size := by omega
    try have : w3.heap.size < w6.heap.size := by omega
    try have : w4.heap.size < w6.heap.size := by omega
    try have : w5.heap.size < w6.heap.size := by omega
    go_wp2_with fail
    refine (once_any _ _ _ _ _ _ _ _ _).mono ?_
    rintro e w7 ⟨rfl, hb7⟩
    obtain ⟨hc7, hf7, hz7⟩ := hb7.facts
    try simp at hz7
    try have : w.heap.size < w7.heap.size := by omega
    try have : w1.heap.size < w7.heap.size := by omega
    try have : w2.heap.size < w7.heap.size := by omega
    try have : w3.heap.size < w7.heap.size := by omega
    try have : w4.heap.size < w7.heap.size := by omega
    try have : w5.heap.size < w7.heap.size := by omega
    try have : w6.heap.size < w7.heap.size := by omega
    go_wp2_with fail
    refine (map_any _ _ _ _ _ _ _ _ _ (by omega) (by omega)).mono ?_
    rintro e w8 ⟨rfl, hb8⟩
    obtain ⟨hc8, hf8, hz8⟩ := hb8.facts
    try simp at hz8
    try have : w.heap.size < w8.heap.size := by omega
    try have : w1.heap.size < w8.heap.size := by omega
    try have : w2.heap.size < w8.heap.size := by omega
    try have : w3.heap.size < w8.heap.size := by omega
    try have : w4.heap.size < w8.heap.size := by omega
    try have : w5.heap.size < w8.heap.size := by omega
    try have : w6.heap.size < w8.heap.size := by omega
    try have : w7.heap.size < w8.heap.size := by omega
    go_wp2_with fail
    refine (invo_any _ _ _ _ _ _ _ _ _).mono ?_
    rintro e w9 ⟨rfl, hb9⟩
    obtain ⟨hc9, hf9, hz9⟩ := hb9.facts
    try simp at hz9
    try have : w.heap.size < w9.heap.size := by omega
    try have : w1.heap.size < w9.heap.size := by omega
    try have : w2.heap.size < w9.heap.size := by omega
    try have : w3.heap.size < w9.heap.size := by omega
    try have : w4.heap.size < w9.heap.size := by omega
    try have : w5.heap.size < w9.heap.size := by omega
    try have : w6.heap.size < w9.heap.size := by omega
    try have : w7.heap.size < w9.heap.size := by omega
    try have : w8.heap.size < w9.heap.size := by omega
    go_wp2_with fail
    refine (rmap_any _ _ _ _ _ _ _ _ _ (by omega) (by omega)).mono ?_
    rintro e w10 ⟨rfl, hb10⟩
    obtain ⟨hc10, hf10, hz10⟩ := hb10.facts
    try simp at hz10
    try have : w.heap.size < w10.heap.size := by omega
    try have : w1.heap.size < w10.heap.size := by omega
    try have : w2.heap.size < w10.heap.size := by omega
    try have : w3.heap.size < w10.heap.size := by omega
    try have : w4.heap.size < w10.heap.size := by omega
    try have : w5.heap.size < w10.heap.size := by omega
    try have : w6.heap.size < w10.heap.size := by omega
    try have : w7.heap.size < w10.heap.size := by omega
    try have : w8.heap.size < w10.heap.size := by omega
    try have : w9.heap.size < w10.heap.size := by omega
    go_wp2
    go_ret
    exact ⟨rfl, by (repeat (first | with_reducible (refine Gr.setCell ?_ ?hp _; case hp => (simp; try omega)) | with_reducible refine Gr.alloc ?_ _ | with_reducible refine Gr.drew ?_ | with_reducible refine Gr.drewN ?_ _ | with_reducible assumption | with_reducible exact Gr.refl _ | with_reducible refine Gr.trans ?_ (by assumption)))⟩

theorem once_law (g0 g1 g2 g3 gl gr si g : Int) (a : Option Addr) (len cap : Nat) (z : List Int) (w : World) (hr : IsRow .u8 w a len cap z) :
    Calls Try.prog 3 #[.agg #[.int .i64 g0, .int .i64 g1, .int .i64 g2, .int .i64 g3, .int .i64 gl, .int .i64 gr, .int .i64 si], .int .i64 g, .slice a len cap] w fun e w' => e = .returned (.bool true) ∧ Gr w w' := by
  by_cases h : len < 2
  · exact once_short g0 g1 g2 g3 gl gr si g a len cap w h
  · have hcap : 0 < cap := by rcases hr with ⟨_, h0, h1, _⟩ | ⟨x, _, h1, _⟩ <;> omega
    obtain ⟨b, off, rfl, hl, hm, hz, hb, hc, hw⟩ := hr.plain hcap
    have bd : ∀ i, i < cap → 0 ≤ z.getD i 0 ∧ z.getD i 0 < 256 := by
      intro i hi
      have := bounds_u8 (hw (z.getD i 0) (by rw [List.getD_eq_getElem?_getD, List.getElem?_eq_getElem (by omega)]; exact List.getElem_mem _))
      omega
    obtain ⟨a0, a1⟩ := bd 0 (by omega)
    obtain ⟨b0, b1⟩ := bd 1 (by omega)
    have hA := hc 0 (by omega)
    have hB := hc 1 (by omega)
    by_cases hg : g < 2 ∨ 3 < g
    · exact once_out g0 g1 g2 g3 gl gr si g b off len cap _ _ w h hA hB a0 a1 b0 b1 hg
    · by_cases hx : z.getD 0 0 % 128 < 32
      · rcases (show g = 2 ∨ g = 3 by omega) with rfl | rfl
        · exact once_ctrl2 g0 g1 g2 g3 gl gr si b off len cap _ _ w h hA hB a0 a1 b0 b1 hx
        · exact once_ctrl3 g0 g1 g2 g3 gl gr si b off len cap _ _ w h hA hB a0 a1 b0 b1 hx
      · rcases (show g = 2 ∨ g = 3 by omega) with rfl | rfl
        · exact once_map2 g0 g1 g2 g3 gl gr si b off len cap _ _ w h hA hB a0 a1 b0 b1 hx
        · exact once_map3 g0 g1 g2 g3 gl gr si b off len cap _ _ w h hA hB a0 a1 b0 b1 hx
end Go.Proofs.Ytomflpkokcldeaa
