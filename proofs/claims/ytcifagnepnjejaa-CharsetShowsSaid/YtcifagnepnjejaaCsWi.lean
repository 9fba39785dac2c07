/-
  The law on national sets and the law on what is shown: each call returns true.
-/
import Derived.Test.YtcifagnepnjejaaCsWh
namespace Go.Proofs.Ytcifagnepnjejaa
open Go.RowKit

def cntN (n : Int) (k : Nat) : Nat := ((List.range k).filter fun (i : Nat) => Gl n (33 + i) != 33 + i).length
theorem cntN_succ (n : Int) (k : Nat) : cntN n (k + 1) = cntN n k + if Gl n (33 + k) = 33 + k then 0 else 1 := by
  unfold cntN
  rw [List.range_succ, List.filter_append, List.length_append]
  by_cases h : Gl n (33 + k) = 33 + k <;> simp [h]
theorem cntN_le (n : Int) (k : Nat) : cntN n k ≤ k := by
  have := List.length_filter_le (fun (i : Nat) => Gl n (33 + i) != 33 + i) (List.range k)
  simpa [cntN] using this
theorem fin6 {p : Int → Prop} (h : ∀ n : Fin 12, p (n.val + 6)) (n : Int) (hn : between 6 17 n = true) : p n := by
  simp only [between, Bool.and_eq_true, decide_eq_true_eq] at hn
  obtain ⟨k, rfl⟩ : ∃ k : Fin 12, n = k.val + 6 := ⟨⟨(n - 6).toNat, by omega⟩, by simp; omega⟩
  exact h k
theorem nat_places (n : Int) (hn : between 6 17 n = true) : ∀ k : Fin 94, Gl n (33 + (k.val : Nat)) = 33 + (k.val : Nat) ∨ (33 + k.val) ∈ [35, 64, 91, 92, 93, 94, 95, 96, 123, 124, 125, 126] :=
  fin6 (p := fun n => ∀ k : Fin 94, Gl n (33 + (k.val : Nat)) = 33 + (k.val : Nat) ∨ (33 + k.val) ∈ [35, 64, 91, 92, 93, 94, 95, 96, 123, 124, 125, 126]) (by decide +kernel) n hn
theorem nat_count (n : Int) (hn : between 6 17 n = true) : 0 < cntN n 94 ∧ cntN n 94 ≤ 12 :=
  fin6 (p := fun n => 0 < cntN n 94 ∧ cntN n 94 ≤ 12) (by decide +kernel) n hn

set_option maxRecDepth 100000 in
set_option maxHeartbeats 1000000 in
theorem nations_law (n : Int) (w : World) :
    Calls Try.prog 4 #[.int .i64 n] w fun e w' => e = .returned (.bool true) ∧ Gr w w' := by
  cases hb : between 6 17 n with
  | false =>
    go_enter Try.func4, Try.ntmps4
    go_wp2_with (first
      | (go_at_call 8; refine (awake09 _).mono ?_; rintro e w1 ⟨rfl, hb1⟩)
      | (go_at_call 11; refine (nat_any _ _).mono ?_; rintro e w1 ⟨rfl, rfl⟩))
    go_ret
    exact ⟨rfl, by (repeat (first | exact Gr.refl _ | assumption | refine Gr.alloc ?_ _ | refine Gr.drew ?_ | refine Gr.drewN ?_ _ | refine Gr.trans ?_ (by assumption)))⟩
  | true =>
    have hp := nat_places n hb
    have hc := nat_count n hb
    have HP := Lib.hid hp; clear hp
    have HC := Lib.hid hc; clear hc
    go_enter Try.func4, Try.ntmps4
    go_wp2_with (first
      | (go_at_call 8; refine (awake09 _).mono ?_; rintro e w1 ⟨rfl, hb1⟩)
      | (go_at_call 11; refine (nat_any _ _).mono ?_; rintro e w1 ⟨rfl, rfl⟩))
    go_loopw [3, 4, 5] (fun m c _ w' => ∃ k : Nat, k ≤ 94 ∧ c = .int .i64 (33 + k) ∧ m = .int .i64 (cntN n k) ∧ Gr w w') (fun _ c _ _ => (127 - intOf c).toNat)
    case atStart => exact ⟨0, by omega, rfl, rfl, by (repeat (first | exact Gr.refl _ | assumption | refine Gr.alloc ?_ _ | refine Gr.drew ?_ | refine Gr.drewN ?_ _ | refine Gr.trans ?_ (by assumption)))⟩
    case round =>
      obtain ⟨k, hk, rfl, rfl, hgr⟩ := hrel
      have hle := cntN_le n k
      by_cases hlt : k < 94
      · have hsucc := Lib.hid (cntN_succ n k)
        have hpl := HP.out ⟨k, hlt⟩
        simp only at hpl
        by_cases hg : Gl n (33 + k) = 33 + k
        · have HG := Lib.hid hg
          have hgb : (Gl n (33 + k) == 33 + k) = true := by simp [hg]
          clear hg hpl
          have hm : ((33 : Int) + k) % 128 = 33 + k := by omega
          have hm2 : ((33 : Int) + k) % 256 = 33 + k := by omega
          go_wp2_with (first
            | (go_at_call 9; refine (glyph_any _ _ _ (by omega) (by omega)).mono ?_; rintro e w1 ⟨rfl, hb2⟩))
          go_roundw
          case rel => exact ⟨k + 1, by omega, congrArg (Value.int .i64) (by omega), congrArg (Value.int .i64) (by rw [hsucc.out, if_pos HG.out]; omega), by (repeat (first | exact Gr.refl _ | assumption | refine Gr.alloc ?_ _ | refine Gr.drew ?_ | refine Gr.drewN ?_ _ | refine Gr.trans ?_ (by assumption)))⟩
          case measure => simp [intOf]; omega
        · have HG := Lib.hid hg
          have hgb : (Gl n (33 + k) == 33 + k) = false := by simp [hg]
          have hpl := hpl.resolve_left hg
          clear hg
          have hm : ((33 : Int) + k) % 128 = 33 + k := by omega
          have hm2 : ((33 : Int) + k) % 256 = 33 + k := by omega
          simp only [List.mem_cons, List.not_mem_nil, or_false] at hpl
          rcases hpl with h | h | h | h | h | h | h | h | h | h | h | h
          all_goals
            go_wp2_with (first
              | (go_at_call 9; refine (glyph_any _ _ _ (by omega) (by omega)).mono ?_; rintro e w1 ⟨rfl, hb2⟩))
            go_roundw
            case rel => exact ⟨k + 1, by omega, congrArg (Value.int .i64) (by omega), congrArg (Value.int .i64) (by rw [hsucc.out, if_neg HG.out]; omega), by (repeat (first | exact Gr.refl _ | assumption | refine Gr.alloc ?_ _ | refine Gr.drew ?_ | refine Gr.drewN ?_ _ | refine Gr.trans ?_ (by assumption)))⟩
            case measure => simp [intOf]; omega
      · obtain rfl : k = 94 := by omega
        have hcc := HC.out
        obtain ⟨hc1, hc2⟩ := hcc
        go_wp2
        go_ret
        exact ⟨by simp; omega, hgr⟩

/-- What the law says of one code. -/
theorem shows_fin : ∀ n : Fin 18, ∀ c : Fin 128,
    (Gl n.val c.val != 0) = (between 1 17 n.val && (decide (32 ≤ (c.val : Int)) && (decide ((c.val : Int) < 127) || wideOf n.val))) ∧
    ¬ Gl n.val c.val < 0 ∧ ¬ 65535 < Gl n.val c.val ∧ (between 1 17 n.val && ((c.val : Int) == 32) && !wideOf n.val && (Gl n.val c.val != 32)) = false := by decide +kernel
theorem shows_any (n c : Int) (h0 : 0 ≤ c) (h1 : c < 128) :
    (Gl n c != 0) = (between 1 17 n && (decide (32 ≤ c) && (decide (c < 127) || wideOf n))) ∧
    ¬ Gl n c < 0 ∧ ¬ 65535 < Gl n c ∧ (between 1 17 n && (c == 32) && !wideOf n && (Gl n c != 32)) = false := by
  by_cases hn : 0 ≤ n ∧ n < 18
  · have := shows_fin ⟨n.toNat, by omega⟩ ⟨c.toNat, by omega⟩
    simpa only [Int.toNat_of_nonneg h0, Int.toNat_of_nonneg hn.1] using this
  · have hb : between 1 17 n = false := by simp [between]; omega
    have hG : Gl n c = 0 := by unfold Gl; rw [hb]; simp
    simp [hb, hG]

set_option maxRecDepth 100000 in
set_option maxHeartbeats 1000000 in
theorem shows_case (n : Int) (w : World) (th wd : Bool) (hth : between 1 17 n = th) (hwd : wideOf n = wd) (hcase : (n < 1 ∧ th = false) ∨ (17 < n ∧ th = false) ∨ (1 ≤ n ∧ n ≤ 17 ∧ th = true)) :
    Calls Try.prog 5 #[.int .i64 n] w fun e w' => e = .returned (.bool true) ∧ Gr w w' := by
  have hs := fun (k : Nat) (h : k < 128) => shows_any n k (by omega) (by omega)
  rw [hth, hwd] at hs
  have HS := Lib.hid hs
  have hid := fun w => id_any n w
  rw [hwd] at hid
  have HI := Lib.hid hid
  clear hth hwd hs hid
  rcases hcase with ⟨hc, rfl⟩ | ⟨hc, rfl⟩ | ⟨hc, hc2, rfl⟩
  all_goals
    try have hd : decide (n ≤ 17) = false := by simp; omega
    try have hd1 : decide (1 ≤ n) = false := by simp; omega
    cases wd
    all_goals
      go_enter Try.func5, Try.ntmps5
      go_wp2_with (first
        | (go_at_call 8; refine (awake09 _).mono ?_; rintro e w1 ⟨rfl, hb1⟩)
        | (go_at_call 12; refine (HI.out _).mono ?_; rintro e w1 ⟨rfl, hb1⟩))
      go_loopw [6, 7, 8] (fun c _ _ w' => ∃ k : Nat, k ≤ 128 ∧ c = .int .i64 k ∧ Gr w w') (fun c _ _ _ => (128 - intOf c).toNat)
      case atStart => exact ⟨0, by omega, rfl, by (repeat (first | exact Gr.refl _ | assumption | refine Gr.alloc ?_ _ | refine Gr.drew ?_ | refine Gr.drewN ?_ _ | refine Gr.trans ?_ (by assumption)))⟩
      case round =>
        obtain ⟨k, hk, rfl, hgr⟩ := hrel
        by_cases hlt : k < 128
        · obtain ⟨hA, hB, hC, hD⟩ := HS.out k hlt
          have hcode : k < 32 ∨ (32 ≤ k ∧ k ≤ 32) ∨ (33 ≤ k ∧ k < 127) ∨ (127 ≤ k ∧ k ≤ 127) := by omega
          have hm : (k : Int) % 256 = k := by omega
          have hm1 : (k : Int) % 128 = k := by omega
          rcases hcode with h | ⟨h, h2⟩ | ⟨h, h2⟩ | ⟨h, h2⟩
          all_goals
            try have g1 : decide ((k : Int) < 127) = true := by simp; omega
            try have g2 : decide (32 ≤ (k : Int)) = true := by simp; omega
            try have g2 : decide (32 ≤ (k : Int)) = false := by simp; omega
            try have g3 : ((k : Int) == 32) = false := by simp; omega
            try have g3 : ((k : Int) == 32) = true := by simp; omega
            try have g1 : decide ((k : Int) < 127) = false := by simp; omega
            try simp only [g1, g2, g3, Bool.false_and, Bool.true_and, Bool.and_false, Bool.and_true, Bool.or_false, Bool.or_true, Bool.not_true, Bool.not_false] at hA hD
            go_wp2_with (first
              | (go_at_call 9; refine (glyph_any _ _ _ (by omega) (by omega)).mono ?_; rintro e w1 ⟨rfl, hb2⟩))
            go_roundw
            case rel => exact ⟨k + 1, by omega, by go_num, by (repeat (first | exact Gr.refl _ | assumption | refine Gr.alloc ?_ _ | refine Gr.drew ?_ | refine Gr.drewN ?_ _ | refine Gr.trans ?_ (by assumption)))⟩
            case measure => simp [intOf]; try omega
        · obtain rfl : k = 128 := by omega
          go_wp2
          go_ret
          exact ⟨rfl, hgr⟩

theorem shows_law (n : Int) (w : World) :
    Calls Try.prog 5 #[.int .i64 n] w fun e w' => e = .returned (.bool true) ∧ Gr w w' := by
  refine shows_case n w _ _ rfl rfl ?_
  simp only [between, Bool.and_eq_false_iff, decide_eq_false_iff_not, Bool.and_eq_true, decide_eq_true_eq]
  omega
end Go.Proofs.Ytcifagnepnjejaa
