/-
  May a kind have a code; is a token bare: whatever the answer.
-/
import Derived.Test.YtnnhaenmoifplaaDoorZTkH
namespace Go.Proofs.YtnnhaenmoifplaaDoor
set_option linter.unusedSimpArgs false
set_option linter.unusedVariables false
open Go.RowKit
set_option linter.unusedVariables false

/-- May a kind have a code? -/
def codeB (k c : Int) (none : Bool) : Bool :=
  if k = 1 then showsB c else if k = 2 then decide (1 ≤ c ∧ c ≤ 31 ∧ c ≠ 24 ∧ c ≠ 27)
  else if k = 3 then decide (¬ (none = true ∧ (opKind c ≠ 0 ∨ c = 92)) ∧ 48 ≤ c ∧ c ≤ 126) else if k = 4 ∨ k = 5 then decide (64 ≤ c ∧ c ≤ 126) else decide (c = 0)
theorem opKind_some (c : Int) (h : opKind c ≠ 0) : ∃ j : Nat, 4 ≤ j ∧ j ≤ 9 ∧ opKind c = j := by
  unfold opKind at h ⊢
  by_cases h1 : c = 91
  · exact ⟨4, by omega, by omega, by simp [h1]⟩
  by_cases h2 : c = 80
  · exact ⟨5, by omega, by omega, by simp [h2]⟩
  by_cases h3 : c = 93
  · exact ⟨6, by omega, by omega, by simp [h3]⟩
  by_cases h4 : c = 88
  · exact ⟨7, by omega, by omega, by simp [h4]⟩
  by_cases h5 : c = 94
  · exact ⟨8, by omega, by omega, by simp [h5]⟩
  by_cases h6 : c = 95
  · exact ⟨9, by omega, by omega, by simp [h6]⟩
  simp [h1, h2, h3, h4, h5, h6] at h
def CodeIs (w : World) (k c m : Int) (s : ByteArray) (v1 v2 : Value) (b : Bool) : Prop :=
  Calls Tryd.prog 57 #[.agg #[.int .i64 k, .int .u8 c, .int .u8 m, v1, .string s, v2]] w fun e w' => e = .returned (.bool b) ∧ Gr w w'

set_option maxRecDepth 100000 in
set_option maxHeartbeats 2000000 in
theorem codeF_1 (c m : Int) (a1 a2 : Option Addr) (n1 c1 n2 c2 : Nat) (s : ByteArray) (w : World) : CodeIs w 1 c m s (.slice a1 n1 c1) (.slice a2 n2 c2) (showsB c) := by
  unfold CodeIs
  go_enter Tryd.func57, Tryd.ntmps57
  go_wp2_with (go_at_call 66; refine (shows_any c _).mono ?_; rintro e w1 ⟨rfl, rfl⟩)
  go_ret
  exact ⟨rfl, by (repeat (first | with_reducible exact Gr.refl _ | with_reducible assumption | with_reducible refine Gr.setCell ?_ (by simp; try omega) _ | with_reducible refine Gr.alloc ?_ _ | with_reducible refine Gr.drew ?_ | with_reducible refine Gr.drewN ?_ _ | with_reducible refine Gr.trans ?_ (by assumption)))⟩
set_option maxRecDepth 100000 in
set_option maxHeartbeats 2000000 in
theorem codeF_2 (c m : Int) (a1 a2 : Option Addr) (n1 c1 n2 c2 : Nat) (s : ByteArray) (w : World) : CodeIs w 2 c m s (.slice a1 n1 c1) (.slice a2 n2 c2) (decide (1 ≤ c ∧ c ≤ 31 ∧ c ≠ 24 ∧ c ≠ 27)) := by
  unfold CodeIs
  by_cases hi : 1 ≤ c ∧ c ≤ 31
  · have hin := fun w => in_true c 1 31 w hi.1 hi.2
    by_cases h24 : c = 24
    · subst h24
      go_enter Tryd.func57, Tryd.ntmps57
      go_wp2_with (go_at_call 60; refine (hin _).mono ?_; rintro e w1 ⟨rfl, rfl⟩)
      go_ret
      exact ⟨rfl, by (repeat (first | with_reducible exact Gr.refl _ | with_reducible assumption | with_reducible refine Gr.setCell ?_ (by simp; try omega) _ | with_reducible refine Gr.alloc ?_ _ | with_reducible refine Gr.drew ?_ | with_reducible refine Gr.drewN ?_ _ | with_reducible refine Gr.trans ?_ (by assumption)))⟩
    · by_cases h27 : c = 27
      · subst h27
        go_enter Tryd.func57, Tryd.ntmps57
        go_wp2_with (go_at_call 60; refine (hin _).mono ?_; rintro e w1 ⟨rfl, rfl⟩)
        go_ret
        exact ⟨rfl, by (repeat (first | with_reducible exact Gr.refl _ | with_reducible assumption | with_reducible refine Gr.setCell ?_ (by simp; try omega) _ | with_reducible refine Gr.alloc ?_ _ | with_reducible refine Gr.drew ?_ | with_reducible refine Gr.drewN ?_ _ | with_reducible refine Gr.trans ?_ (by assumption)))⟩
      · rw [decide_eq_true (show 1 ≤ c ∧ c ≤ 31 ∧ c ≠ 24 ∧ c ≠ 27 from ⟨hi.1, hi.2, h24, h27⟩)]
        have q3 : (c != 24) = true := by simpa using h24
        have q4 : (c != 27) = true := by simpa using h27
        clear hi h24 h27
        go_enter Tryd.func57, Tryd.ntmps57
        go_wp2_with (go_at_call 60; refine (hin _).mono ?_; rintro e w1 ⟨rfl, rfl⟩)
        go_ret
        exact ⟨rfl, by (repeat (first | with_reducible exact Gr.refl _ | with_reducible assumption | with_reducible refine Gr.setCell ?_ (by simp; try omega) _ | with_reducible refine Gr.alloc ?_ _ | with_reducible refine Gr.drew ?_ | with_reducible refine Gr.drewN ?_ _ | with_reducible refine Gr.trans ?_ (by assumption)))⟩
  · rw [decide_eq_false (show ¬ (1 ≤ c ∧ c ≤ 31 ∧ c ≠ 24 ∧ c ≠ 27) from fun h => hi ⟨h.1, h.2.1⟩)]
    have hin := fun w => in_false c 1 31 w (by omega)
    clear hi
    go_enter Tryd.func57, Tryd.ntmps57
    go_wp2_with (go_at_call 60; refine (hin _).mono ?_; rintro e w1 ⟨rfl, rfl⟩)
    go_ret
    exact ⟨rfl, by (repeat (first | with_reducible exact Gr.refl _ | with_reducible assumption | with_reducible refine Gr.setCell ?_ (by simp; try omega) _ | with_reducible refine Gr.alloc ?_ _ | with_reducible refine Gr.drew ?_ | with_reducible refine Gr.drewN ?_ _ | with_reducible refine Gr.trans ?_ (by assumption)))⟩
set_option maxRecDepth 100000 in
set_option maxHeartbeats 2000000 in
theorem codeF_long (k c m : Int) (hk : k = 4 ∨ k = 5) (a1 a2 : Option Addr) (n1 c1 n2 c2 : Nat) (s : ByteArray) (w : World) : CodeIs w k c m s (.slice a1 n1 c1) (.slice a2 n2 c2) (inB c 64 126) := by
  unfold CodeIs
  rcases hk with rfl | rfl
  all_goals
    go_enter Tryd.func57, Tryd.ntmps57
    go_wp2_with (go_at_call 60; refine (in_any c 64 126 _).mono ?_; rintro e w1 ⟨rfl, rfl⟩)
    go_ret
    exact ⟨rfl, by (repeat (first | with_reducible exact Gr.refl _ | with_reducible assumption | with_reducible refine Gr.setCell ?_ (by simp; try omega) _ | with_reducible refine Gr.alloc ?_ _ | with_reducible refine Gr.drew ?_ | with_reducible refine Gr.drewN ?_ _ | with_reducible refine Gr.trans ?_ (by assumption)))⟩
set_option maxRecDepth 100000 in
set_option maxHeartbeats 2000000 in
theorem codeF_str (k c m : Int) (hk : 6 ≤ k ∧ k ≤ 9) (a1 a2 : Option Addr) (n1 c1 n2 c2 : Nat) (s : ByteArray) (w : World) : CodeIs w k c m s (.slice a1 n1 c1) (.slice a2 n2 c2) (c == 0) := by
  unfold CodeIs
  rcases (by omega : k = 6 ∨ k = 7 ∨ k = 8 ∨ k = 9) with rfl | rfl | rfl | rfl
  all_goals
    clear hk
    go_enter Tryd.func57, Tryd.ntmps57
    go_wp2_with fail
    go_ret
    exact ⟨rfl, by (repeat (first | with_reducible exact Gr.refl _ | with_reducible assumption | with_reducible refine Gr.setCell ?_ (by simp; try omega) _ | with_reducible refine Gr.alloc ?_ _ | with_reducible refine Gr.drew ?_ | with_reducible refine Gr.drewN ?_ _ | with_reducible refine Gr.trans ?_ (by assumption)))⟩
set_option maxRecDepth 100000 in
set_option maxHeartbeats 2000000 in
theorem codeF_some (c m : Int) (a1 a2 : Option Addr) (n1 c1 n2 c2 : Nat) (s : ByteArray) (hs : s ≠ ⟨#[]⟩) (w : World) : CodeIs w 3 c m s (.slice a1 n1 c1) (.slice a2 n2 c2) (inB c 48 126) := by
  unfold CodeIs
  have q1 : s.toList.isEmpty = false := by
    rw [Bool.eq_false_iff]; intro e
    apply hs
    have : s.toList = [] := by simpa using e
    exact (bytes_inj s ⟨#[]⟩).1 (by rw [this, ByteArray.toList_eq])
  have q2 : ¬ s.toList = [] := by simpa using q1
  go_enter Tryd.func57, Tryd.ntmps57
  go_wp2_with fail
  go_loop [4] (fun t => t = .int .i64 4) (fun _ => 0)
  case atStart => rfl
  case round =>
    subst hrel
    go_wp2_with (go_at_call 60; refine (in_any c 48 126 _).mono ?_; rintro e w1 ⟨rfl, rfl⟩)
    go_ret
    exact ⟨rfl, by (repeat (first | with_reducible exact Gr.refl _ | with_reducible assumption | with_reducible refine Gr.setCell ?_ (by simp; try omega) _ | with_reducible refine Gr.alloc ?_ _ | with_reducible refine Gr.drew ?_ | with_reducible refine Gr.drewN ?_ _ | with_reducible refine Gr.trans ?_ (by assumption)))⟩
set_option maxRecDepth 100000 in
set_option maxHeartbeats 2000000 in
theorem codeF_none (c m : Int) (a1 a2 : Option Addr) (n1 c1 n2 c2 : Nat) (w : World) (hb : opKind c = 0 ∧ c ≠ 92) : CodeIs w 3 c m ⟨#[]⟩ (.slice a1 n1 c1) (.slice a2 n2 c2) (inB c 48 126) := by
  unfold CodeIs
  obtain ⟨ho, h92⟩ := hb
  have q92 : (c == 92) = false := by simpa using h92
  have HO := Lib.hid ho
  clear ho h92
  go_enter Tryd.func57, Tryd.ntmps57
  go_wp2_with fail
  go_loop [4] (fun t => ∃ k : Nat, 4 ≤ k ∧ k ≤ 10 ∧ t = .int .i64 k) (fun t => 10 - (intOf t).toNat)
  case atStart => exact ⟨4, by omega, by omega, rfl⟩
  case round =>
    obtain ⟨k, k4, k10, rfl⟩ := hrel
    by_cases k9 : k ≤ 9
    · have hb : beginsR k ≠ c := fun e => by
        have := (begins_op k k4 k9 c).1 e
        rw [HO.out] at this; omega
      obtain ⟨b, hbd⟩ : ∃ b, b = beginsR k := ⟨_, rfl⟩
      have hcon := opens_any k (w.alloc (.cells #[.int .i64 3, .int .u8 c, .int .u8 m, .slice a1 n1 c1, .string ⟨#[]⟩, .slice a2 n2 c2] 34))
      rw [← hbd] at hb hcon
      have qb : (c == b) = false := by simpa using fun e => hb e.symm
      clear hbd hb
      go_wp2_with (go_at_call 50; refine hcon.mono ?_; rintro e w1 ⟨rfl, rfl⟩)
      go_round
      case rel => exact ⟨k + 1, by omega, by omega, by go_num⟩
      case measure => simp [intOf]; omega
    · obtain rfl : k = 10 := by omega
      go_wp2_with (go_at_call 60; refine (in_any c 48 126 _).mono ?_; rintro e w1 ⟨rfl, rfl⟩)
      go_ret
      exact ⟨rfl, by (repeat (first | with_reducible exact Gr.refl _ | with_reducible assumption | with_reducible refine Gr.setCell ?_ (by simp; try omega) _ | with_reducible refine Gr.alloc ?_ _ | with_reducible refine Gr.drew ?_ | with_reducible refine Gr.drewN ?_ _ | with_reducible refine Gr.trans ?_ (by assumption)))⟩
set_option maxRecDepth 100000 in
set_option maxHeartbeats 2000000 in
theorem codeF_off (c m : Int) (a1 a2 : Option Addr) (n1 c1 n2 c2 : Nat) (w : World) (hb : opKind c ≠ 0 ∨ c = 92) : CodeIs w 3 c m ⟨#[]⟩ (.slice a1 n1 c1) (.slice a2 n2 c2) false := by
  unfold CodeIs
  have HO := Lib.hid hb
  clear hb
  go_enter Tryd.func57, Tryd.ntmps57
  go_wp2_with fail
  go_loop [4] (fun t => ∃ k : Nat, 4 ≤ k ∧ k ≤ 10 ∧ t = .int .i64 k ∧ ∀ j : Nat, 4 ≤ j → j < k → opKind c ≠ j ∧ c ≠ 92) (fun t => 10 - (intOf t).toNat)
  case atStart => exact ⟨4, by omega, by omega, rfl, fun j h1 h2 => by omega⟩
  case round =>
    obtain ⟨k, k4, k10, rfl, hall⟩ := hrel
    by_cases k9 : k ≤ 9
    · obtain ⟨b, hbd⟩ : ∃ b, b = beginsR k := ⟨_, rfl⟩
      have hcon := opens_any k (w.alloc (.cells #[.int .i64 3, .int .u8 c, .int .u8 m, .slice a1 n1 c1, .string ⟨#[]⟩, .slice a2 n2 c2] 34))
      have hbo := begins_op k k4 k9 c
      rw [← hbd] at hcon hbo
      clear hbd
      by_cases hx : b = c
      · have qb : (c == b) = true := by simpa using hx.symm
        clear hall hbo hx
        go_wp2_with (go_at_call 50; refine hcon.mono ?_; rintro e w1 ⟨rfl, rfl⟩)
        go_ret
        exact ⟨rfl, by (repeat (first | with_reducible exact Gr.refl _ | with_reducible assumption | with_reducible refine Gr.setCell ?_ (by simp; try omega) _ | with_reducible refine Gr.alloc ?_ _ | with_reducible refine Gr.drew ?_ | with_reducible refine Gr.drewN ?_ _ | with_reducible refine Gr.trans ?_ (by assumption)))⟩
      · have qb : (c == b) = false := by simpa using fun e => hx e.symm
        have hop : opKind c ≠ k := fun e => hx (hbo.2 e)
        by_cases h92 : c = 92
        · have q92 : (c == 92) = true := by simpa using h92
          clear hall hbo hx hop h92
          go_wp2_with (go_at_call 50; refine hcon.mono ?_; rintro e w1 ⟨rfl, rfl⟩)
          go_ret
          exact ⟨rfl, by (repeat (first | with_reducible exact Gr.refl _ | with_reducible assumption | with_reducible refine Gr.setCell ?_ (by simp; try omega) _ | with_reducible refine Gr.alloc ?_ _ | with_reducible refine Gr.drew ?_ | with_reducible refine Gr.drewN ?_ _ | with_reducible refine Gr.trans ?_ (by assumption)))⟩
        · have q92 : (c == 92) = false := by simpa using h92
          have HA := Lib.hid (show ∀ j : Nat, 4 ≤ j → j < k + 1 → opKind c ≠ j ∧ c ≠ 92 from fun j h1 h2 => by
            by_cases e : j = k
            · subst e; exact ⟨hop, h92⟩
            · exact hall j h1 (by omega))
          clear hall hbo hx hop h92
          go_wp2_with (go_at_call 50; refine hcon.mono ?_; rintro e w1 ⟨rfl, rfl⟩)
          go_round
          case rel => exact ⟨k + 1, by omega, by omega, by go_num, HA.out⟩
          case measure => simp [intOf]; omega
    · exfalso
      have h4 := hall 4 (by omega) (by omega)
      rcases HO.out with h | h
      · rcases opKind_some c h with ⟨j, j4, j9, e⟩
        exact (hall j j4 (by omega)).1 e
      · exact h4.2 h
/-- token.code, whatever the token. -/
theorem code_any (k c m : Int) (hk : 1 ≤ k ∧ k ≤ 9) (l : List Int) (a1 a2 : Option Addr) (n1 c1 n2 c2 : Nat) (w : World) : CodeIs w k c m (strOf l) (.slice a1 n1 c1) (.slice a2 n2 c2) (codeB k c (decide (l = []))) := by
  rcases (by omega : k = 1 ∨ k = 2 ∨ k = 3 ∨ (k = 4 ∨ k = 5) ∨ (6 ≤ k ∧ k ≤ 9)) with rfl | rfl | rfl | h | h
  · exact codeF_1 c m _ _ _ _ _ _ _ w
  · exact codeF_2 c m _ _ _ _ _ _ _ w
  · by_cases hl : l = []
    · subst hl
      by_cases ho : opKind c = 0 ∧ c ≠ 92
      · have e : codeB 3 c (decide (([] : List Int) = [])) = inB c 48 126 := by simp [codeB, inB, ho]
        rw [e]; exact codeF_none c m _ _ _ _ _ _ w ho
      · have ho' : opKind c ≠ 0 ∨ c = 92 := by
          by_cases h1 : opKind c = 0
          · right; by_cases h2 : c = 92
            · exact h2
            · exact absurd ⟨h1, h2⟩ ho
          · exact .inl h1
        have e : codeB 3 c (decide (([] : List Int) = [])) = false := by
          unfold codeB
          rw [if_neg (by decide), if_neg (by decide), if_pos rfl]
          exact decide_eq_false (fun h => h.1 ⟨by simp, ho'⟩)
        rw [e]; exact codeF_off c m _ _ _ _ _ _ w ho'
    · have e : codeB 3 c (decide (l = [])) = inB c 48 126 := by simp [codeB, inB, hl]
      rw [e]; exact codeF_some c m _ _ _ _ _ _ _ (strOf_ne hl) w
  · have e : codeB k c (decide (l = [])) = inB c 64 126 := by rcases h with rfl | rfl <;> simp [codeB, inB]
    rw [e]; exact codeF_long k c m h _ _ _ _ _ _ _ w
  · have e : codeB k c (decide (l = [])) = (c == 0) := by
      unfold codeB
      rw [if_neg (by omega), if_neg (by omega), if_neg (by omega), if_neg (by omega)]
      by_cases h0 : c = 0 <;> simp [h0]
    rw [e]; exact codeF_str k c m h _ _ _ _ _ _ _ w
set_option maxRecDepth 100000 in
set_option maxHeartbeats 2000000 in
theorem bare_off (k c m : Int) (a1 a2 : Option Addr) (n1 c1 n2 c2 : Nat) (l : List Int) (w : World) (h : m ≠ 0 ∨ n1 ≠ 0 ∨ l ≠ [] ∨ n2 ≠ 0) :
    Calls Tryd.prog 61 #[.agg #[.int .i64 k, .int .u8 c, .int .u8 m, .slice a1 n1 c1, .string (strOf l), .slice a2 n2 c2]] w fun e w' => e = .returned (.bool false) ∧ Gr w w' := by
  by_cases h1 : m = 0
  · subst h1
    by_cases h2 : n1 = 0
    · subst h2
      by_cases h3 : l = []
      · subst h3
        have h4 : n2 ≠ 0 := by rcases h with h | h | h | h <;> first | exact h | exact absurd rfl h
        have q : ((n2 : Int) == 0) = false := by simpa using h4
        rw [strOf_nil]
        clear h
        go_enter Tryd.func61, Tryd.ntmps61
        go_wp2_with fail
        go_ret
        exact ⟨rfl, by (repeat (first | with_reducible exact Gr.refl _ | with_reducible assumption | with_reducible refine Gr.setCell ?_ (by simp; try omega) _ | with_reducible refine Gr.alloc ?_ _ | with_reducible refine Gr.drew ?_ | with_reducible refine Gr.drewN ?_ _ | with_reducible refine Gr.trans ?_ (by assumption)))⟩
      · have hs := strOf_ne h3
        have q1 : (strOf l).toList.isEmpty = false := by
          rw [Bool.eq_false_iff]; intro e
          apply hs
          have : (strOf l).toList = [] := by simpa using e
          exact (bytes_inj _ ⟨#[]⟩).1 (by rw [this, ByteArray.toList_eq])
        have q2 : ¬ (strOf l).toList = [] := by simpa using q1
        obtain ⟨s, hsd⟩ : ∃ s, s = strOf l := ⟨_, rfl⟩
        rw [← hsd] at q1 q2 ⊢
        clear hsd hs h3 h
        go_enter Tryd.func61, Tryd.ntmps61
        go_wp2_with fail
        go_ret
        exact ⟨rfl, by (repeat (first | with_reducible exact Gr.refl _ | with_reducible assumption | with_reducible refine Gr.setCell ?_ (by simp; try omega) _ | with_reducible refine Gr.alloc ?_ _ | with_reducible refine Gr.drew ?_ | with_reducible refine Gr.drewN ?_ _ | with_reducible refine Gr.trans ?_ (by assumption)))⟩
    · have q : ((n1 : Int) == 0) = false := by simpa using h2
      obtain ⟨s, hsd⟩ : ∃ s, s = strOf l := ⟨_, rfl⟩
      rw [← hsd]
      clear h2 h hsd
      go_enter Tryd.func61, Tryd.ntmps61
      go_wp2_with fail
      go_ret
      exact ⟨rfl, by (repeat (first | with_reducible exact Gr.refl _ | with_reducible assumption | with_reducible refine Gr.setCell ?_ (by simp; try omega) _ | with_reducible refine Gr.alloc ?_ _ | with_reducible refine Gr.drew ?_ | with_reducible refine Gr.drewN ?_ _ | with_reducible refine Gr.trans ?_ (by assumption)))⟩
  · have q : (m == 0) = false := by simpa using h1
    obtain ⟨s, hsd⟩ : ∃ s, s = strOf l := ⟨_, rfl⟩
    rw [← hsd]
    clear h1 h hsd
    go_enter Tryd.func61, Tryd.ntmps61
    go_wp2_with fail
    go_ret
    exact ⟨rfl, by (repeat (first | with_reducible exact Gr.refl _ | with_reducible assumption | with_reducible refine Gr.setCell ?_ (by simp; try omega) _ | with_reducible refine Gr.alloc ?_ _ | with_reducible refine Gr.drew ?_ | with_reducible refine Gr.drewN ?_ _ | with_reducible refine Gr.trans ?_ (by assumption)))⟩
end Go.Proofs.YtnnhaenmoifplaaDoor
