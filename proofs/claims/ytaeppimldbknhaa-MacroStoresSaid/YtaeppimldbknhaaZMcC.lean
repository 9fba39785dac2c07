/-
  Bytes out of hexadecimal digits: both texts.
-/
import Derived.Test.YtaeppimldbknhaaZMcB
namespace Go.Proofs.Ytaeppimldbknhaa
set_option linter.unusedSimpArgs false
set_option linter.unusedVariables false
open Go.RowKit
set_option linter.unusedVariables false

theorem digZ_lo (k : Int) (h0 : 0 ≤ k) (h1 : k < 10) : digZ (48 + k) = k := by unfold digZ; rw [if_pos (by omega)]; omega
theorem digZ_hi (k : Int) (h0 : 10 ≤ k) (h1 : k < 16) : digZ (65 + k - 10) = k ∧ digZ (65 + k - 10 + 32) = k := by
  unfold digZ
  refine ⟨?_, ?_⟩
  · rw [if_neg (by omega), if_pos (by omega)]; omega
  · rw [if_neg (by omega), if_neg (by omega), if_pos (by omega)]; omega
theorem digZ_not (c k : Int) (h0 : 0 ≤ k) (h1 : k < 16) (h : ¬ (k < 10 ∧ c = 48 + k)) (h2 : ¬ (10 ≤ k ∧ (c = 65 + k - 10 ∨ c = 65 + k - 10 + 32))) : digZ c ≠ k := by
  unfold digZ
  split
  · omega
  · split
    · omega
    · split <;> omega
set_option maxRecDepth 100000 in
set_option maxHeartbeats 2000000 in
theorem value_any (c : Int) (h0 : 0 ≤ c) (h1 : c < 256) (w : World) : Calls Try.prog 48 #[.int .u8 c] w fun e w' => e = .returned (.int .i64 (digZ c)) ∧ w = w' := by
  go_enter Try.func48, Try.ntmps48
  go_wp2
  go_loop [3] (fun i => ∃ k : Nat, k ≤ 16 ∧ i = .int .i64 k ∧ ∀ j : Nat, j < k → digZ c ≠ j) (fun i => (16 - intOf i).toNat)
  case atStart => exact ⟨0, by omega, rfl, fun j hj => by omega⟩
  case round =>
    obtain ⟨k, hk, rfl, hall⟩ := hrel
    have HA := Lib.hid hall
    clear hall
    by_cases hlt : k < 16
    · by_cases h10 : k < 10
      · have h10' : (k : Int) < 10 := by omega
        have c1 := fun w => hexd_lo k (by omega) h10' w
        by_cases hc : c = 48 + k
        · subst hc
          have hd := digZ_lo k (by omega) h10'
          have HD := Lib.hid hd
          clear hd HA
          go_wp2_with (go_at_call 61; (with_reducible refine (c1 _).mono ?_); rintro e w1 ⟨rfl, rfl⟩)
          go_ret
          exact ⟨by rw [HD.out]; rfl, rfl⟩
        · have hc1 : ((48 + (k : Int)) == c) = false := by simp; omega
          have hn := Lib.hid (digZ_not c k (by omega) (by omega) (by omega) (by omega))
          go_wp2_with (go_at_call 61; (with_reducible refine (c1 _).mono ?_); rintro e w1 ⟨rfl, rfl⟩)
          go_round
          case rel => exact ⟨k + 1, by omega, by go_num, fun j hj => by
            rcases Nat.lt_or_ge j k with h | h
            · exact HA.out j h
            · obtain rfl : j = k := by omega
              exact hn.out⟩
          case measure => simp [intOf]; omega
      · have h10' : (10 : Int) ≤ (k : Int) := by omega
        have c1 := fun w => hexd_hi k h10' (by omega) w
        obtain ⟨hd1, hd2⟩ := digZ_hi k h10' (by omega)
        by_cases hc : c = 65 + k - 10
        · subst hc
          have HD := Lib.hid hd1
          clear hd1 hd2 HA
          go_wp2_with (go_at_call 61; (with_reducible refine (c1 _).mono ?_); rintro e w1 ⟨rfl, rfl⟩)
          go_ret
          exact ⟨by rw [HD.out]; rfl, rfl⟩
        · have hc1 : ((65 + (k : Int) - 10) == c) = false := by simp; omega
          have hw := u8_small (65 + (k : Int) - 10 + 32) (by omega) (by omega)
          by_cases hc2 : c = 65 + k - 10 + 32
          · subst hc2
            have HD := Lib.hid hd2
            clear hd1 hd2 HA hc
            go_wp2_with (go_at_call 61; (with_reducible refine (c1 _).mono ?_); rintro e w1 ⟨rfl, rfl⟩)
            go_ret
            exact ⟨by rw [HD.out]; rfl, rfl⟩
          · have hc3 : ((65 + (k : Int) - 10 + 32) == c) = false := by simp; omega
            have hn := Lib.hid (digZ_not c k (by omega) (by omega) (by omega) (by omega))
            clear hd1 hd2
            go_wp2_with (go_at_call 61; (with_reducible refine (c1 _).mono ?_); rintro e w1 ⟨rfl, rfl⟩)
            go_round
            case rel => exact ⟨k + 1, by omega, by go_num, fun j hj => by
              rcases Nat.lt_or_ge j k with h | h
              · exact HA.out j h
              · obtain rfl : j = k := by omega
                exact hn.out⟩
            case measure => simp [intOf]; omega
    · obtain rfl : k = 16 := by omega
      have hv : digZ c = -1 := by
        rcases digZ_in c with h | ⟨h1, h2⟩
        · exact h
        · exact absurd (Int.toNat_of_nonneg h1).symm (HA.out (digZ c).toNat (by omega))
      have HV := Lib.hid hv
      clear hv HA
      go_wp2
      go_ret
      exact ⟨by rw [HV.out]; rfl, rfl⟩
end Go.Proofs.Ytaeppimldbknhaa
