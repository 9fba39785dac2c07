/-
  The document's Check of any token.
-/
import Derived.Test.YtgbmjlajheeciaaDoorZTkK
namespace Go.Proofs.YtgbmjlajheeciaaDoor
set_option linter.unusedSimpArgs false
set_option linter.unusedVariables false
open Go.RowKit
set_option linter.unusedVariables false

set_option maxHeartbeats 1000000 in
theorem begun_walk (c : Int) (w : World) : Calls Tryd.prog 49 #[.int .u8 c] w fun e w' => e = .returned (.int .i64 (opKind c)) ∧ w = w' := by
  go_enter Tryd.func49, Tryd.ntmps49
  go_wp2_with fail
  go_loop [3] (fun t => ∃ k : Nat, 4 ≤ k ∧ k ≤ 10 ∧ t = .int .i64 k ∧ ∀ j : Nat, 4 ≤ j → j < k → opKind c ≠ j) (fun t => 10 - (intOf t).toNat)
  case atStart => exact ⟨4, by omega, by omega, rfl, fun j h1 h2 => by omega⟩
  case round =>
    obtain ⟨k, k4, k10, rfl, hall⟩ := hrel
    by_cases k9 : k ≤ 9
    · have hbo := begins_op k k4 k9 c
      have hcon := begins_walk (k : Int)
      rw [← begins_eq] at hcon
      obtain ⟨b, hbd⟩ : ∃ b, b = beginsR k := ⟨_, rfl⟩
      rw [← hbd] at hcon hbo
      clear hbd
      by_cases hx : b = c
      · have hop : opKind c = k := hbo.1 hx
        have HOP := Lib.hid hop
        have qb : (b == c) = true := by simpa using hx
        clear hall hbo hx hop
        go_wp2_with (go_at_call 37; refine (hcon _).mono ?_; rintro e w1 ⟨rfl, rfl⟩)
        go_ret
        exact ⟨by rw [HOP.out]; rfl, rfl⟩
      · have qb : (b == c) = false := by simpa using hx
        have hop : opKind c ≠ k := fun e => hx (hbo.2 e)
        have HA := Lib.hid (show ∀ j : Nat, 4 ≤ j → j < k + 1 → opKind c ≠ j from fun j h1 h2 => by
          by_cases e : j = k
          · subst e; exact hop
          · exact hall j h1 (by omega))
        clear hall hbo hx hop
        go_wp2_with (go_at_call 37; refine (hcon _).mono ?_; rintro e w1 ⟨rfl, rfl⟩)
        go_round
        case rel => exact ⟨k + 1, by omega, by omega, by go_num, HA.out⟩
        case measure => simp [intOf]; omega
    · obtain rfl : k = 10 := by omega
      have h0 : opKind c = 0 := by
        by_cases h : opKind c = 0
        · exact h
        · obtain ⟨j, j4, j9, e⟩ := opKind_some c h
          exact absurd e (hall j j4 (by omega))
      have H0 := Lib.hid h0
      clear hall h0
      go_wp2_with fail
      go_ret
      exact ⟨by rw [H0.out]; rfl, rfl⟩
def RCode (w : World) (k c m : Int) (s : ByteArray) (v1 v2 : Value) (b : Bool) : Prop :=
  Calls Tryd.prog 32 #[.agg #[.int .i64 k, .int .u8 c, .int .u8 m, v1, .string s, v2]] w fun e w' => e = .returned (.bool b) ∧ Gr w w'
set_option maxHeartbeats 1000000 in
set_option maxRecDepth 100000 in
theorem rcode_1 (c m : Int) (a1 a2 : Option Addr) (n1 c1 n2 c2 : Nat) (s : ByteArray) (w : World) : RCode w 1 c m s (.slice a1 n1 c1) (.slice a2 n2 c2) (showsB c) := by
  unfold RCode showsB
  rcases (by omega : c < 32 ∨ (32 ≤ c ∧ c ≤ 126) ∨ (32 ≤ c ∧ 126 < c ∧ c < 160) ∨ (32 ≤ c ∧ 126 < c ∧ 160 ≤ c)) with h | h | h | h
  · have d1 : decide (32 ≤ c) = false := by simp; omega
    have d2 : decide (160 ≤ c) = false := by simp; omega
    rw [decide_eq_false (by omega)]
    clear h
    go_enter Tryd.func32, Tryd.ntmps32
    go_wp2
    go_ret
    exact ⟨rfl, by (repeat (first | with_reducible exact Gr.refl _ | with_reducible assumption | with_reducible refine Gr.setCell ?_ (by simp; try omega) _ | with_reducible refine Gr.alloc ?_ _ | with_reducible refine Gr.drew ?_ | with_reducible refine Gr.drewN ?_ _ | with_reducible refine Gr.trans ?_ (by assumption)))⟩
  · have d1 : decide (32 ≤ c) = true := by simp; omega
    have d2 : decide (c ≤ 126) = true := by simp; omega
    rw [decide_eq_true (by omega)]
    clear h
    go_enter Tryd.func32, Tryd.ntmps32
    go_wp2
    go_ret
    exact ⟨rfl, by (repeat (first | with_reducible exact Gr.refl _ | with_reducible assumption | with_reducible refine Gr.setCell ?_ (by simp; try omega) _ | with_reducible refine Gr.alloc ?_ _ | with_reducible refine Gr.drew ?_ | with_reducible refine Gr.drewN ?_ _ | with_reducible refine Gr.trans ?_ (by assumption)))⟩
  · have d1 : decide (32 ≤ c) = true := by simp; omega
    have d2 : decide (c ≤ 126) = false := by simp; omega
    have d3 : decide (160 ≤ c) = false := by simp; omega
    rw [decide_eq_false (by omega)]
    clear h
    go_enter Tryd.func32, Tryd.ntmps32
    go_wp2
    go_ret
    exact ⟨rfl, by (repeat (first | with_reducible exact Gr.refl _ | with_reducible assumption | with_reducible refine Gr.setCell ?_ (by simp; try omega) _ | with_reducible refine Gr.alloc ?_ _ | with_reducible refine Gr.drew ?_ | with_reducible refine Gr.drewN ?_ _ | with_reducible refine Gr.trans ?_ (by assumption)))⟩
  · have d1 : decide (32 ≤ c) = true := by simp; omega
    have d2 : decide (c ≤ 126) = false := by simp; omega
    have d3 : decide (160 ≤ c) = true := by simp; omega
    rw [decide_eq_true (by omega)]
    clear h
    go_enter Tryd.func32, Tryd.ntmps32
    go_wp2
    go_ret
    exact ⟨rfl, by (repeat (first | with_reducible exact Gr.refl _ | with_reducible assumption | with_reducible refine Gr.setCell ?_ (by simp; try omega) _ | with_reducible refine Gr.alloc ?_ _ | with_reducible refine Gr.drew ?_ | with_reducible refine Gr.drewN ?_ _ | with_reducible refine Gr.trans ?_ (by assumption)))⟩
set_option maxHeartbeats 1000000 in
set_option maxRecDepth 100000 in
theorem rcode_2 (c m : Int) (a1 a2 : Option Addr) (n1 c1 n2 c2 : Nat) (s : ByteArray) (w : World) : RCode w 2 c m s (.slice a1 n1 c1) (.slice a2 n2 c2) (decide (1 ≤ c ∧ c ≤ 31 ∧ c ≠ 24 ∧ c ≠ 27)) := by
  unfold RCode
  by_cases h1 : 1 ≤ c
  · have d1 : decide (1 ≤ c) = true := by simp; omega
    by_cases h2 : c ≤ 31
    · have d2 : decide (c ≤ 31) = true := by simp; omega
      by_cases h24 : c = 24
      · subst h24
        go_enter Tryd.func32, Tryd.ntmps32
        go_wp2
        go_ret
        exact ⟨rfl, by (repeat (first | with_reducible exact Gr.refl _ | with_reducible assumption | with_reducible refine Gr.setCell ?_ (by simp; try omega) _ | with_reducible refine Gr.alloc ?_ _ | with_reducible refine Gr.drew ?_ | with_reducible refine Gr.drewN ?_ _ | with_reducible refine Gr.trans ?_ (by assumption)))⟩
      · have d3 : (c != 24) = true := by simpa using h24
        by_cases h27 : c = 27
        · subst h27
          go_enter Tryd.func32, Tryd.ntmps32
          go_wp2
          go_ret
          exact ⟨rfl, by (repeat (first | with_reducible exact Gr.refl _ | with_reducible assumption | with_reducible refine Gr.setCell ?_ (by simp; try omega) _ | with_reducible refine Gr.alloc ?_ _ | with_reducible refine Gr.drew ?_ | with_reducible refine Gr.drewN ?_ _ | with_reducible refine Gr.trans ?_ (by assumption)))⟩
        · have d4 : (c != 27) = true := by simpa using h27
          rw [decide_eq_true ⟨h1, h2, h24, h27⟩]
          clear h1 h2 h24 h27
          go_enter Tryd.func32, Tryd.ntmps32
          go_wp2
          go_ret
          exact ⟨rfl, by (repeat (first | with_reducible exact Gr.refl _ | with_reducible assumption | with_reducible refine Gr.setCell ?_ (by simp; try omega) _ | with_reducible refine Gr.alloc ?_ _ | with_reducible refine Gr.drew ?_ | with_reducible refine Gr.drewN ?_ _ | with_reducible refine Gr.trans ?_ (by assumption)))⟩
    · have d2 : decide (c ≤ 31) = false := by simp; omega
      rw [decide_eq_false (fun h => h2 h.2.1)]
      clear h1 h2
      go_enter Tryd.func32, Tryd.ntmps32
      go_wp2
      go_ret
      exact ⟨rfl, by (repeat (first | with_reducible exact Gr.refl _ | with_reducible assumption | with_reducible refine Gr.setCell ?_ (by simp; try omega) _ | with_reducible refine Gr.alloc ?_ _ | with_reducible refine Gr.drew ?_ | with_reducible refine Gr.drewN ?_ _ | with_reducible refine Gr.trans ?_ (by assumption)))⟩
  · have d1 : decide (1 ≤ c) = false := by simp; omega
    rw [decide_eq_false (fun h => h1 h.1)]
    clear h1
    go_enter Tryd.func32, Tryd.ntmps32
    go_wp2
    go_ret
    exact ⟨rfl, by (repeat (first | with_reducible exact Gr.refl _ | with_reducible assumption | with_reducible refine Gr.setCell ?_ (by simp; try omega) _ | with_reducible refine Gr.alloc ?_ _ | with_reducible refine Gr.drew ?_ | with_reducible refine Gr.drewN ?_ _ | with_reducible refine Gr.trans ?_ (by assumption)))⟩
set_option maxHeartbeats 1000000 in
set_option maxRecDepth 100000 in
theorem rcode_long (k c m : Int) (hk : k = 4 ∨ k = 5) (a1 a2 : Option Addr) (n1 c1 n2 c2 : Nat) (s : ByteArray) (w : World) : RCode w k c m s (.slice a1 n1 c1) (.slice a2 n2 c2) (decide (64 ≤ c ∧ c ≤ 126)) := by
  unfold RCode
  rcases hk with rfl | rfl
  all_goals
    by_cases h1 : 64 ≤ c
    · have d1 : decide (64 ≤ c) = true := by simp; omega
      have e : decide (64 ≤ c ∧ c ≤ 126) = decide (c ≤ 126) := by simp [h1]
      rw [e]
      clear h1 e
      go_enter Tryd.func32, Tryd.ntmps32
      go_wp2
      go_ret
      exact ⟨rfl, by (repeat (first | with_reducible exact Gr.refl _ | with_reducible assumption | with_reducible refine Gr.setCell ?_ (by simp; try omega) _ | with_reducible refine Gr.alloc ?_ _ | with_reducible refine Gr.drew ?_ | with_reducible refine Gr.drewN ?_ _ | with_reducible refine Gr.trans ?_ (by assumption)))⟩
    · have d1 : decide (64 ≤ c) = false := by simp; omega
      rw [decide_eq_false (fun h => h1 h.1)]
      clear h1
      go_enter Tryd.func32, Tryd.ntmps32
      go_wp2
      go_ret
      exact ⟨rfl, by (repeat (first | with_reducible exact Gr.refl _ | with_reducible assumption | with_reducible refine Gr.setCell ?_ (by simp; try omega) _ | with_reducible refine Gr.alloc ?_ _ | with_reducible refine Gr.drew ?_ | with_reducible refine Gr.drewN ?_ _ | with_reducible refine Gr.trans ?_ (by assumption)))⟩
set_option maxHeartbeats 1000000 in
set_option maxRecDepth 100000 in
theorem rcode_str (k c m : Int) (hk : 6 ≤ k ∧ k ≤ 9) (a1 a2 : Option Addr) (n1 c1 n2 c2 : Nat) (s : ByteArray) (w : World) : RCode w k c m s (.slice a1 n1 c1) (.slice a2 n2 c2) (c == 0) := by
  unfold RCode
  rcases (by omega : k = 6 ∨ k = 7 ∨ k = 8 ∨ k = 9) with rfl | rfl | rfl | rfl
  all_goals
    clear hk
    go_enter Tryd.func32, Tryd.ntmps32
    go_wp2
    go_ret
    exact ⟨rfl, by (repeat (first | with_reducible exact Gr.refl _ | with_reducible assumption | with_reducible refine Gr.setCell ?_ (by simp; try omega) _ | with_reducible refine Gr.alloc ?_ _ | with_reducible refine Gr.drew ?_ | with_reducible refine Gr.drewN ?_ _ | with_reducible refine Gr.trans ?_ (by assumption)))⟩
theorem qstr {s : ByteArray} (hs : s ≠ ⟨#[]⟩) : s.toList.isEmpty = false ∧ ¬ s.toList = [] ∧ (s.toList == (⟨#[]⟩ : ByteArray).toList) = false := by
  have q1 : s.toList.isEmpty = false := by
    rw [Bool.eq_false_iff]; intro e
    apply hs
    have : s.toList = [] := by simpa using e
    exact (bytes_inj s ⟨#[]⟩).1 (by rw [this, ByteArray.toList_eq])
  have q2 : ¬ s.toList = [] := by simpa using q1
  refine ⟨q1, q2, ?_⟩
  rw [show (⟨#[]⟩ : ByteArray).toList = [] from by rw [ByteArray.toList_eq]]
  cases hx : s.toList with
  | nil => exact absurd hx q2
  | cons a b => rfl
set_option maxHeartbeats 1000000 in
set_option maxRecDepth 100000 in
theorem rcode_some (c m : Int) (a1 a2 : Option Addr) (n1 c1 n2 c2 : Nat) (s : ByteArray) (hs : s ≠ ⟨#[]⟩) (w : World) : RCode w 3 c m s (.slice a1 n1 c1) (.slice a2 n2 c2) (inB c 48 126) := by
  unfold RCode inB
  obtain ⟨q1, q2, q3⟩ := qstr hs
  clear hs
  by_cases h1 : 48 ≤ c
  · have d1 : decide (48 ≤ c) = true := by simp; omega
    have e : decide (48 ≤ c ∧ c ≤ 126) = decide (c ≤ 126) := by simp [h1]
    rw [e]
    clear h1 e
    go_enter Tryd.func32, Tryd.ntmps32
    go_wp2
    go_ret
    exact ⟨rfl, by (repeat (first | with_reducible exact Gr.refl _ | with_reducible assumption | with_reducible refine Gr.setCell ?_ (by simp; try omega) _ | with_reducible refine Gr.alloc ?_ _ | with_reducible refine Gr.drew ?_ | with_reducible refine Gr.drewN ?_ _ | with_reducible refine Gr.trans ?_ (by assumption)))⟩
  · have d1 : decide (48 ≤ c) = false := by simp; omega
    rw [decide_eq_false (fun h => h1 h.1)]
    clear h1
    go_enter Tryd.func32, Tryd.ntmps32
    go_wp2
    go_ret
    exact ⟨rfl, by (repeat (first | with_reducible exact Gr.refl _ | with_reducible assumption | with_reducible refine Gr.setCell ?_ (by simp; try omega) _ | with_reducible refine Gr.alloc ?_ _ | with_reducible refine Gr.drew ?_ | with_reducible refine Gr.drewN ?_ _ | with_reducible refine Gr.trans ?_ (by assumption)))⟩
set_option maxHeartbeats 1000000 in
set_option maxRecDepth 100000 in
theorem rcode_none (c m : Int) (a1 a2 : Option Addr) (n1 c1 n2 c2 : Nat) (w : World) (hb : opKind c = 0 ∧ c ≠ 92) : RCode w 3 c m ⟨#[]⟩ (.slice a1 n1 c1) (.slice a2 n2 c2) (inB c 48 126) := by
  unfold RCode inB
  obtain ⟨ho, h92⟩ := hb
  have hbg := fun w => begun_walk c w
  rw [ho] at hbg
  have q92 : (c == 92) = false := by simpa using h92
  clear ho h92
  by_cases h1 : 48 ≤ c
  · have d1 : decide (48 ≤ c) = true := by simp; omega
    have e : decide (48 ≤ c ∧ c ≤ 126) = decide (c ≤ 126) := by simp [h1]
    rw [e]
    clear h1 e
    go_enter Tryd.func32, Tryd.ntmps32
    go_wp2_with (go_at_call 49; refine (hbg _).mono ?_; rintro e w1 ⟨rfl, rfl⟩)
    go_ret
    exact ⟨rfl, by (repeat (first | with_reducible exact Gr.refl _ | with_reducible assumption | with_reducible refine Gr.setCell ?_ (by simp; try omega) _ | with_reducible refine Gr.alloc ?_ _ | with_reducible refine Gr.drew ?_ | with_reducible refine Gr.drewN ?_ _ | with_reducible refine Gr.trans ?_ (by assumption)))⟩
  · have d1 : decide (48 ≤ c) = false := by simp; omega
    rw [decide_eq_false (fun h => h1 h.1)]
    clear h1
    go_enter Tryd.func32, Tryd.ntmps32
    go_wp2_with (go_at_call 49; refine (hbg _).mono ?_; rintro e w1 ⟨rfl, rfl⟩)
    go_ret
    exact ⟨rfl, by (repeat (first | with_reducible exact Gr.refl _ | with_reducible assumption | with_reducible refine Gr.setCell ?_ (by simp; try omega) _ | with_reducible refine Gr.alloc ?_ _ | with_reducible refine Gr.drew ?_ | with_reducible refine Gr.drewN ?_ _ | with_reducible refine Gr.trans ?_ (by assumption)))⟩
set_option maxHeartbeats 1000000 in
set_option maxRecDepth 100000 in
theorem rcode_off (c m : Int) (a1 a2 : Option Addr) (n1 c1 n2 c2 : Nat) (w : World) (hb : opKind c ≠ 0 ∨ c = 92) : RCode w 3 c m ⟨#[]⟩ (.slice a1 n1 c1) (.slice a2 n2 c2) false := by
  unfold RCode
  have hbg := fun w => begun_walk c w
  by_cases h0 : opKind c = 0
  · have h92 : c = 92 := hb.resolve_left (fun h => h h0)
    rw [h0] at hbg
    subst h92
    clear hb h0
    go_enter Tryd.func32, Tryd.ntmps32
    go_wp2_with (go_at_call 49; refine (hbg _).mono ?_; rintro e w1 ⟨rfl, rfl⟩)
    go_ret
    exact ⟨rfl, by (repeat (first | with_reducible exact Gr.refl _ | with_reducible assumption | with_reducible refine Gr.setCell ?_ (by simp; try omega) _ | with_reducible refine Gr.alloc ?_ _ | with_reducible refine Gr.drew ?_ | with_reducible refine Gr.drewN ?_ _ | with_reducible refine Gr.trans ?_ (by assumption)))⟩
  · obtain ⟨y, hy⟩ : ∃ y, y = opKind c := ⟨_, rfl⟩
    rw [← hy] at hbg h0
    have q : (y != 0) = true := by simpa using h0
    clear hb h0 hy
    go_enter Tryd.func32, Tryd.ntmps32
    go_wp2_with (go_at_call 49; refine (hbg _).mono ?_; rintro e w1 ⟨rfl, rfl⟩)
    go_ret
    exact ⟨rfl, by (repeat (first | with_reducible exact Gr.refl _ | with_reducible assumption | with_reducible refine Gr.setCell ?_ (by simp; try omega) _ | with_reducible refine Gr.alloc ?_ _ | with_reducible refine Gr.drew ?_ | with_reducible refine Gr.drewN ?_ _ | with_reducible refine Gr.trans ?_ (by assumption)))⟩
/-- The document's code, whatever the token. -/
theorem rcode_any (k c m : Int) (hk : 1 ≤ k ∧ k ≤ 9) (l : List Int) (a1 a2 : Option Addr) (n1 c1 n2 c2 : Nat) (w : World) : RCode w k c m (strOf l) (.slice a1 n1 c1) (.slice a2 n2 c2) (codeB k c (decide (l = []))) := by
  rcases (by omega : k = 1 ∨ k = 2 ∨ k = 3 ∨ (k = 4 ∨ k = 5) ∨ (6 ≤ k ∧ k ≤ 9)) with rfl | rfl | rfl | h | h
  · exact rcode_1 c m _ _ _ _ _ _ _ w
  · exact rcode_2 c m _ _ _ _ _ _ _ w
  · by_cases hl : l = []
    · subst hl
      by_cases ho : opKind c = 0 ∧ c ≠ 92
      · have e : codeB 3 c (decide (([] : List Int) = [])) = inB c 48 126 := by simp [codeB, inB, ho]
        rw [e]; exact rcode_none c m _ _ _ _ _ _ w ho
      · have ho' : opKind c ≠ 0 ∨ c = 92 := by
          by_cases h1 : opKind c = 0
          · right; by_cases h2 : c = 92
            · exact h2
            · exact absurd ⟨h1, h2⟩ ho
          · exact .inl h1
        have e : codeB 3 c (decide (([] : List Int) = [])) = false := by
          unfold codeB
          rw [if_neg (by decide), if_neg (by decide), if_pos rfl]
          exact decide_eq_false (fun h => h.1 ⟨by simp, ho'⟩)
        rw [e]; exact rcode_off c m _ _ _ _ _ _ w ho'
    · have e : codeB 3 c (decide (l = [])) = inB c 48 126 := by simp [codeB, inB, hl]
      rw [e]; exact rcode_some c m _ _ _ _ _ _ _ (strOf_ne hl) w
  · have e : codeB k c (decide (l = [])) = decide (64 ≤ c ∧ c ≤ 126) := by rcases h with rfl | rfl <;> simp [codeB]
    rw [e]; exact rcode_long k c m h _ _ _ _ _ _ _ w
  · have e : codeB k c (decide (l = [])) = (c == 0) := by
      unfold codeB
      rw [if_neg (by omega), if_neg (by omega), if_neg (by omega), if_neg (by omega)]
      by_cases h0 : c = 0 <;> simp [h0]
    rw [e]; exact rcode_str k c m h _ _ _ _ _ _ _ w
end Go.Proofs.YtgbmjlajheeciaaDoor
