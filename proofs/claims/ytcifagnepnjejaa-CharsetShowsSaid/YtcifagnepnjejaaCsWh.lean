/-
  The laws on sets of characters, but for that on glyphs: each call returns true.
-/
import Derived.Test.YtcifagnepnjejaaCsWg
namespace Go.Proofs.Ytcifagnepnjejaa
open Go.RowKit

set_option maxHeartbeats 1000000 in
theorem finds_law (wide : Bool) (id : ByteArray) (w : World) :
    Calls Try.prog 6 #[.bool wide, .string id] w fun e w' => e = .returned (.bool true) ∧ Gr w w' := by
  by_cases hz : findP wide id = 0
  · have hb : decide (findP wide id ≠ 0) = false := by simp [hz]
    go_enter Try.func6, Try.ntmps6
    go_wp2_with (first
      | (go_at_call 8; refine (awake09 _).mono ?_; rintro e w1 ⟨rfl, hb1⟩)
      | (go_at_call 13; refine (find_any _ _ _).mono ?_; rintro e w1 ⟨rfl, hb1⟩)
      | (go_at_call 14; refine (rfind_any _ _ _).mono ?_; rintro e w1 ⟨rfl, rfl⟩)
      | (go_at_call 12; refine (id_any _ _).mono ?_; rintro e w1 ⟨rfl, hb1⟩))
    go_ret
    exact ⟨rfl, by (repeat (first | exact Gr.refl _ | assumption | refine Gr.alloc ?_ _ | refine Gr.drew ?_ | refine Gr.drewN ?_ _ | refine Gr.trans ?_ (by assumption)))⟩
  · have hb : decide (findP wide id ≠ 0) = true := by simp [hz]
    have hw := find_wide wide id hz
    have hne : (findP wide id != 0) = true := by simp [hz]
    go_enter Try.func6, Try.ntmps6
    go_wp2_with (first
      | (go_at_call 8; refine (awake09 _).mono ?_; rintro e w1 ⟨rfl, hb1⟩)
      | (go_at_call 13; refine (find_any _ _ _).mono ?_; rintro e w1 ⟨rfl, hb1⟩)
      | (go_at_call 14; refine (rfind_any _ _ _).mono ?_; rintro e w1 ⟨rfl, rfl⟩)
      | (go_at_call 12; refine (id_any _ _).mono ?_; rintro e w1 ⟨rfl, hb1⟩))
    go_ret
    exact ⟨rfl, by (repeat (first | exact Gr.refl _ | assumption | refine Gr.alloc ?_ _ | refine Gr.drew ?_ | refine Gr.drewN ?_ _ | refine Gr.trans ?_ (by assumption)))⟩

set_option maxHeartbeats 1000000 in
theorem ids_law (n : Int) (w : World) :
    Calls Try.prog 7 #[.int .i64 n] w fun e w' => e = .returned (.bool true) ∧ Gr w w' := by
  cases hb : between 1 17 n with
  | true =>
    have hf := find_back n hb
    have h6 : between 6 17 n = decide (6 ≤ n) := by
      have : n ≤ 17 := by simp [between] at hb; omega
      simp [between, this]
    have h1 : 1 ≤ n ∧ n ≤ 17 := by simpa [between] using hb
    have hne : (n != 0) = true := by simp; omega
    obtain ⟨h1, h2⟩ := h1
    have H := Lib.hid hb; clear hb
    by_cases h66 : 6 ≤ n
    all_goals
      go_enter Try.func7, Try.ntmps7
      go_wp2_with (first
        | (go_at_call 8; refine (awake09 _).mono ?_; rintro e w1 ⟨rfl, hb1⟩)
        | (go_at_call 13; refine (find_any _ _ _).mono ?_; rintro e w1 ⟨rfl, hb1⟩)
        | (go_at_call 12; refine (id_any _ _).mono ?_; rintro e w1 ⟨rfl, hb1⟩)
        | (go_at_call 17; refine (name_any _ _).mono ?_; rintro e w1 ⟨rfl, hb1⟩)
        | (go_at_call 11; refine (nat_any _ _).mono ?_; rintro e w1 ⟨rfl, rfl⟩)
        | (go_at_call 15; refine (rid_any _ _).mono ?_; rintro e w1 ⟨rfl, rfl⟩)
        | (go_at_call 18; refine (rname_any _ _).mono ?_; rintro e w1 ⟨rfl, rfl⟩)
        | (go_at_call 16; refine (rwide_any _ _).mono ?_; rintro e w1 ⟨rfl, rfl⟩))
      go_ret
      exact ⟨rfl, by (repeat (first | exact Gr.refl _ | assumption | refine Gr.alloc ?_ _ | refine Gr.drew ?_ | refine Gr.drewN ?_ _ | refine Gr.trans ?_ (by assumption)))⟩
  | false =>
    have hf := find_none n hb
    have h6 : between 6 17 n = false := by simp [between] at hb ⊢; omega
    have h1 : n < 1 ∨ 17 < n := by simp [between] at hb; omega
    have H := Lib.hid hb; clear hb
    rcases h1 with h1 | h1
    all_goals
      go_enter Try.func7, Try.ntmps7
      go_wp2_with (first
        | (go_at_call 8; refine (awake09 _).mono ?_; rintro e w1 ⟨rfl, hb1⟩)
        | (go_at_call 13; refine (find_any _ _ _).mono ?_; rintro e w1 ⟨rfl, hb1⟩)
        | (go_at_call 12; refine (id_any _ _).mono ?_; rintro e w1 ⟨rfl, hb1⟩)
        | (go_at_call 17; refine (name_any _ _).mono ?_; rintro e w1 ⟨rfl, hb1⟩)
        | (go_at_call 11; refine (nat_any _ _).mono ?_; rintro e w1 ⟨rfl, rfl⟩)
        | (go_at_call 15; refine (rid_any _ _).mono ?_; rintro e w1 ⟨rfl, rfl⟩)
        | (go_at_call 18; refine (rname_any _ _).mono ?_; rintro e w1 ⟨rfl, rfl⟩)
        | (go_at_call 16; refine (rwide_any _ _).mono ?_; rintro e w1 ⟨rfl, rfl⟩))
      go_ret
      exact ⟨rfl, by (repeat (first | exact Gr.refl _ | assumption | refine Gr.alloc ?_ _ | refine Gr.drew ?_ | refine Gr.drewN ?_ _ | refine Gr.trans ?_ (by assumption)))⟩
end Go.Proofs.Ytcifagnepnjejaa
