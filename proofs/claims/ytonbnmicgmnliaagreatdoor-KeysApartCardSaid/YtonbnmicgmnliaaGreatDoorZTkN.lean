/-
  The document's Check of any token.
  The document's Check of any token: the whole.
  Any two tokens that came in: the document's Check, and its Same.
-/
import Derived.Test.YtonbnmicgmnliaaGreatDoorZTkK
namespace Go.Proofs.YtonbnmicgmnliaaGreatDoor
set_option linter.unusedSimpArgs false
set_option linter.unusedVariables false
open Go.RowKit
set_option linter.unusedVariables false

set_option maxHeartbeats 1000000 in
theorem begun_walk (c : Int) (w : World) : Calls Tryz.prog 53 #[.int .u8 c] w fun e w' => e = .returned (.int .i64 (opKind c)) ∧ w = w' := by
  go_enter Tryz.func53, Tryz.ntmps53
  go_wp2_with fail
  go_loop [3] (fun t => ∃ k : Nat, 4 ≤ k ∧ k ≤ 10 ∧ t = .int .i64 k ∧ ∀ j : Nat, 4 ≤ j → j < k → opKind c ≠ j) (fun t => 10 - (intOf t).toNat)
  case atStart => exact ⟨4, by omega, by omega, rfl, fun j h1 h2 => by omega⟩
  case round =>
    obtain ⟨k, k4, k10, rfl, hall⟩ := hrel
    by_cases k9 : k ≤ 9
    · have hbo := begins_op k k4 k9 c
      have hcon := begins_walk (k : Int)
      rw [← begins_eq] at hcon
      obtain ⟨b, hbd⟩ : ∃ b, b = beginsR k := ⟨_, rfl⟩
      rw [← hbd] at hcon hbo
      clear hbd
      by_cases hx : b = c
      · have hop : opKind c = k := hbo.1 hx
        have HOP := Lib.hid hop
        have qb : (b == c) = true := by simpa using hx
        clear hall hbo hx hop
        go_wp2_with (go_at_call 39; refine (hcon _).mono ?_; rintro e w1 ⟨rfl, rfl⟩)
        go_ret
        exact ⟨by rw [HOP.out]; rfl, rfl⟩
      · have qb : (b == c) = false := by simpa using hx
        have hop : opKind c ≠ k := fun e => hx (hbo.2 e)
        have HA := Lib.hid (show ∀ j : Nat, 4 ≤ j → j < k + 1 → opKind c ≠ j from fun j h1 h2 => by
          by_cases e : j = k
          · subst e; exact hop
          · exact hall j h1 (by omega))
        clear hall hbo hx hop
        go_wp2_with (go_at_call 39; refine (hcon _).mono ?_; rintro e w1 ⟨rfl, rfl⟩)
        go_round
        case rel => exact ⟨k + 1, by omega, by omega, by go_num, HA.out⟩
        case measure => simp [intOf]; omega
    · obtain rfl : k = 10 := by omega
      have h0 : opKind c = 0 := by
        by_cases h : opKind c = 0
        · exact h
        · obtain ⟨j, j4, j9, e⟩ := opKind_some c h
          exact absurd e (hall j j4 (by omega))
      have H0 := Lib.hid h0
      clear hall h0
      go_wp2_with fail
      go_ret
      exact ⟨by rw [H0.out]; rfl, rfl⟩
def RCode (w : World) (k c m : Int) (s : ByteArray) (v1 v2 : Value) (b : Bool) : Prop :=
  Calls Tryz.prog 37 #[.agg #[.int .i64 k, .int .u8 c, .int .u8 m, v1, .string s, v2]] w fun e w' => e = .returned (.bool b) ∧ Gr w w'
set_option maxHeartbeats 1000000 in
set_option maxRecDepth 100000 in
theorem rcode_1 (c m : Int) (a1 a2 : Option Addr) (n1 c1 n2 c2 : Nat) (s : ByteArray) (w : World) : RCode w 1 c m s (.slice a1 n1 c1) (.slice a2 n2 c2) (showsB c) := by
  unfold RCode showsB
  rcases (by omega : c < 32 ∨ (32 ≤ c ∧ c ≤ 126) ∨ (32 ≤ c ∧ 126 < c ∧ c < 160) ∨ (32 ≤ c ∧ 126 < c ∧ 160 ≤ c)) with h | h | h | h
  · have d1 : decide (32 ≤ c) = false := by simp; omega
    have d2 : decide (160 ≤ c) = false := by simp; omega
    rw [decide_eq_false (by omega)]
    clear h
    go_enter Tryz.func37, Tryz.ntmps37
    go_wp2
    go_ret
    exact ⟨rfl, by (repeat (first | with_reducible exact Gr.refl _ | with_reducible assumption | with_reducible refine Gr.setCell ?_ (by simp; try omega) _ | with_reducible refine Gr.alloc ?_ _ | with_reducible refine Gr.drew ?_ | with_reducible refine Gr.drewN ?_ _ | with_reducible refine Gr.trans ?_ (by assumption)))⟩
  · have d1 : decide (32 ≤ c) = true := by simp; omega
    have d2 : decide (c ≤ 126) = true := by simp; omega
    rw [decide_eq_true (by omega)]
    clear h
    go_enter Tryz.func37, Tryz.ntmps37
    go_wp2
    go_ret
    exact ⟨rfl, by (repeat (first | with_reducible exact Gr.refl _ | with_reducible assumption | with_reducible refine Gr.setCell ?_ (by simp; try omega) _ | with_reducible refine Gr.alloc ?_ _ | with_reducible refine Gr.drew ?_ | with_reducible refine Gr.drewN ?_ _ | with_reducible refine Gr.trans ?_ (by assumption)))⟩
  · have d1 : decide (32 ≤ c) = true := by simp; omega
    have d2 : decide (c ≤ 126) = false := by simp; omega
    have d3 : decide (160 ≤ c) = false := by simp; omega
    rw [decide_eq_false (by omega)]
    clear h
    go_enter Tryz.func37, Tryz.ntmps37
    go_wp2
    go_ret
    exact ⟨rfl, by (repeat (first | with_reducible exact Gr.refl _ | with_reducible assumption | with_reducible refine Gr.setCell ?_ (by simp; try omega) _ | with_reducible refine Gr.alloc ?_ _ | with_reducible refine Gr.drew ?_ | with_reducible refine Gr.drewN ?_ _ | with_reducible refine Gr.trans ?_ (by assumption)))⟩
  · have d1 : decide (32 ≤ c) = true := by simp; omega
    have d2 : decide (c ≤ 126) = false := by simp; omega
    have d3 : decide (160 ≤ c) = true := by simp; omega
    rw [decide_eq_true (by omega)]
    clear h
    go_enter Tryz.func37, Tryz.ntmps37
    go_wp2
    go_ret
    exact ⟨rfl, by (repeat (first | with_reducible exact Gr.refl _ | with_reducible assumption | with_reducible refine Gr.setCell ?_ (by simp; try omega) _ | with_reducible refine Gr.alloc ?_ _ | with_reducible refine Gr.drew ?_ | with_reducible refine Gr.drewN ?_ _ | with_reducible refine Gr.trans ?_ (by assumption)))⟩
set_option maxHeartbeats 1000000 in
set_option maxRecDepth 100000 in
theorem rcode_2 (c m : Int) (a1 a2 : Option Addr) (n1 c1 n2 c2 : Nat) (s : ByteArray) (w : World) : RCode w 2 c m s (.slice a1 n1 c1) (.slice a2 n2 c2) (decide (1 ≤ c ∧ c ≤ 31 ∧ c ≠ 24 ∧ c ≠ 27)) := by
  unfold RCode
  by_cases h1 : 1 ≤ c
  · have d1 : decide (1 ≤ c) = true := by simp; omega
    by_cases h2 : c ≤ 31
    · have d2 : decide (c ≤ 31) = true := by simp; omega
      by_cases h24 : c = 24
      · subst h24
        go_enter Tryz.func37, Tryz.ntmps37
        go_wp2
        go_ret
        exact ⟨rfl, by (repeat (first | with_reducible exact Gr.refl _ | with_reducible assumption | with_reducible refine Gr.setCell ?_ (by simp; try omega) _ | with_reducible refine Gr.alloc ?_ _ | with_reducible refine Gr.drew ?_ | with_reducible refine Gr.drewN ?_ _ | with_reducible refine Gr.trans ?_ (by assumption)))⟩
      · have d3 : (c != 24) = true := by simpa using h24
        by_cases h27 : c = 27
        · subst h27
          go_enter Tryz.func37, Tryz.ntmps37
          go_wp2
          go_ret
          exact ⟨rfl, by (repeat (first | with_reducible exact Gr.refl _ | with_reducible assumption | with_reducible refine Gr.setCell ?_ (by simp; try omega) _ | with_reducible refine Gr.alloc ?_ _ | with_reducible refine Gr.drew ?_ | with_reducible refine Gr.drewN ?_ _ | with_reducible refine Gr.trans ?_ (by assumption)))⟩
        · have d4 : (c != 27) = true := by simpa using h27
          rw [decide_eq_true ⟨h1, h2, h24, h27⟩]
          clear h1 h2 h24 h27
          go_enter Tryz.func37, Tryz.ntmps37
          go_wp2
          go_ret
          exact ⟨rfl, by (repeat (first | with_reducible exact Gr.refl _ | with_reducible assumption | with_reducible refine Gr.setCell ?_ (by simp; try omega) _ | with_reducible refine Gr.alloc ?_ _ | with_reducible refine Gr.drew ?_ | with_reducible refine Gr.drewN ?_ _ | with_reducible refine Gr.trans ?_ (by assumption)))⟩
    · have d2 : decide (c ≤ 31) = false := by simp; omega
      rw [decide_eq_false (fun h => h2 h.2.1)]
      clear h1 h2
      go_enter Tryz.func37, Tryz.ntmps37
      go_wp2
      go_ret
      exact ⟨rfl, by (repeat (first | with_reducible exact Gr.refl _ | with_reducible assumption | with_reducible refine Gr.setCell ?_ (by simp; try omega) _ | with_reducible refine Gr.alloc ?_ _ | with_reducible refine Gr.drew ?_ | with_reducible refine Gr.drewN ?_ _ | with_reducible refine Gr.trans ?_ (by assumption)))⟩
  · have d1 : decide (1 ≤ c) = false := by simp; omega
    rw [decide_eq_false (fun h => h1 h.1)]
    clear h1
    go_enter Tryz.func37, Tryz.ntmps37
    go_wp2
    go_ret
    exact ⟨rfl, by (repeat (first | with_reducible exact Gr.refl _ | with_reducible assumption | with_reducible refine Gr.setCell ?_ (by simp; try omega) _ | with_reducible refine Gr.alloc ?_ _ | with_reducible refine Gr.drew ?_ | with_reducible refine Gr.drewN ?_ _ | with_reducible refine Gr.trans ?_ (by assumption)))⟩
set_option maxHeartbeats 1000000 in
set_option maxRecDepth 100000 in
theorem rcode_long (k c m : Int) (hk : k = 4 ∨ k = 5) (a1 a2 : Option Addr) (n1 c1 n2 c2 : Nat) (s : ByteArray) (w : World) : RCode w k c m s (.slice a1 n1 c1) (.slice a2 n2 c2) (decide (64 ≤ c ∧ c ≤ 126)) := by
  unfold RCode
  rcases hk with rfl | rfl
  all_goals
    by_cases h1 : 64 ≤ c
    · have d1 : decide (64 ≤ c) = true := by simp; omega
      have e : decide (64 ≤ c ∧ c ≤ 126) = decide (c ≤ 126) := by simp [h1]
      rw [e]
      clear h1 e
      go_enter Tryz.func37, Tryz.ntmps37
      go_wp2
      go_ret
      exact ⟨rfl, by (repeat (first | with_reducible exact Gr.refl _ | with_reducible assumption | with_reducible refine Gr.setCell ?_ (by simp; try omega) _ | with_reducible refine Gr.alloc ?_ _ | with_reducible refine Gr.drew ?_ | with_reducible refine Gr.drewN ?_ _ | with_reducible refine Gr.trans ?_ (by assumption)))⟩
    · have d1 : decide (64 ≤ c) = false := by simp; omega
      rw [decide_eq_false (fun h => h1 h.1)]
      clear h1
      go_enter Tryz.func37, Tryz.ntmps37
      go_wp2
      go_ret
      exact ⟨rfl, by (repeat (first | with_reducible exact Gr.refl _ | with_reducible assumption | with_reducible refine Gr.setCell ?_ (by simp; try omega) _ | with_reducible refine Gr.alloc ?_ _ | with_reducible refine Gr.drew ?_ | with_reducible refine Gr.drewN ?_ _ | with_reducible refine Gr.trans ?_ (by assumption)))⟩
set_option maxHeartbeats 1000000 in
set_option maxRecDepth 100000 in
theorem rcode_str (k c m : Int) (hk : 6 ≤ k ∧ k ≤ 9) (a1 a2 : Option Addr) (n1 c1 n2 c2 : Nat) (s : ByteArray) (w : World) : RCode w k c m s (.slice a1 n1 c1) (.slice a2 n2 c2) (c == 0) := by
  unfold RCode
  rcases (by omega : k = 6 ∨ k = 7 ∨ k = 8 ∨ k = 9) with rfl | rfl | rfl | rfl
  all_goals
    clear hk
    go_enter Tryz.func37, Tryz.ntmps37
    go_wp2
    go_ret
    exact ⟨rfl, by (repeat (first | with_reducible exact Gr.refl _ | with_reducible assumption | with_reducible refine Gr.setCell ?_ (by simp; try omega) _ | with_reducible refine Gr.alloc ?_ _ | with_reducible refine Gr.drew ?_ | with_reducible refine Gr.drewN ?_ _ | with_reducible refine Gr.trans ?_ (by assumption)))⟩
theorem qstr {s : ByteArray} (hs : s ≠ ⟨#[]⟩) : s.toList.isEmpty = false ∧ ¬ s.toList = [] ∧ (s.toList == (⟨#[]⟩ : ByteArray).toList) = false := by
  have q1 : s.toList.isEmpty = false := by
    rw [Bool.eq_false_iff]; intro e
    apply hs
    have : s.toList = [] := by simpa using e
    exact (bytes_inj s ⟨#[]⟩).1 (by rw [this, ByteArray.toList_eq])
  have q2 : ¬ s.toList = [] := by simpa using q1
  refine ⟨q1, q2, ?_⟩
  rw [show (⟨#[]⟩ : ByteArray).toList = [] from by rw [ByteArray.toList_eq]]
  cases hx : s.toList with
  | nil => exact absurd hx q2
  | cons a b => rfl
set_option maxHeartbeats 1000000 in
set_option maxRecDepth 100000 in
theorem rcode_some (c m : Int) (a1 a2 : Option Addr) (n1 c1 n2 c2 : Nat) (s : ByteArray) (hs : s ≠ ⟨#[]⟩) (w : World) : RCode w 3 c m s (.slice a1 n1 c1) (.slice a2 n2 c2) (inB c 48 126) := by
  unfold RCode inB
  obtain ⟨q1, q2, q3⟩ := qstr hs
  clear hs
  by_cases h1 : 48 ≤ c
  · have d1 : decide (48 ≤ c) = true := by simp; omega
    have e : decide (48 ≤ c ∧ c ≤ 126) = decide (c ≤ 126) := by simp [h1]
    rw [e]
    clear h1 e
    go_enter Tryz.func37, Tryz.ntmps37
    go_wp2
    go_ret
    exact ⟨rfl, by (repeat (first | with_reducible exact Gr.refl _ | with_reducible assumption | with_reducible refine Gr.setCell ?_ (by simp; try omega) _ | with_reducible refine Gr.alloc ?_ _ | with_reducible refine Gr.drew ?_ | with_reducible refine Gr.drewN ?_ _ | with_reducible refine Gr.trans ?_ (by assumption)))⟩
  · have d1 : decide (48 ≤ c) = false := by simp; omega
    rw [decide_eq_false (fun h => h1 h.1)]
    clear h1
    go_enter Tryz.func37, Tryz.ntmps37
    go_wp2
    go_ret
    exact ⟨rfl, by (repeat (first | with_reducible exact Gr.refl _ | with_reducible assumption | with_reducible refine Gr.setCell ?_ (by simp; try omega) _ | with_reducible refine Gr.alloc ?_ _ | with_reducible refine Gr.drew ?_ | with_reducible refine Gr.drewN ?_ _ | with_reducible refine Gr.trans ?_ (by assumption)))⟩
set_option maxHeartbeats 1000000 in
set_option maxRecDepth 100000 in
theorem rcode_none (c m : Int) (a1 a2 : Option Addr) (n1 c1 n2 c2 : Nat) (w : World) (hb : opKind c = 0 ∧ c ≠ 92) : RCode w 3 c m ⟨#[]⟩ (.slice a1 n1 c1) (.slice a2 n2 c2) (inB c 48 126) := by
  unfold RCode inB
  obtain ⟨ho, h92⟩ := hb
  have hbg := fun w => begun_walk c w
  rw [ho] at hbg
  have q92 : (c == 92) = false := by simpa using h92
  clear ho h92
  by_cases h1 : 48 ≤ c
  · have d1 : decide (48 ≤ c) = true := by simp; omega
    have e : decide (48 ≤ c ∧ c ≤ 126) = decide (c ≤ 126) := by simp [h1]
    rw [e]
    clear h1 e
    go_enter Tryz.func37, Tryz.ntmps37
    go_wp2_with (go_at_call 53; refine (hbg _).mono ?_; rintro e w1 ⟨rfl, rfl⟩)
    go_ret
    exact ⟨rfl, by (repeat (first | with_reducible exact Gr.refl _ | with_reducible assumption | with_reducible refine Gr.setCell ?_ (by simp; try omega) _ | with_reducible refine Gr.alloc ?_ _ | with_reducible refine Gr.drew ?_ | with_reducible refine Gr.drewN ?_ _ | with_reducible refine Gr.trans ?_ (by assumption)))⟩
  · have d1 : decide (48 ≤ c) = false := by simp; omega
    rw [decide_eq_false (fun h => h1 h.1)]
    clear h1
    go_enter Tryz.func37, Tryz.ntmps37
    go_wp2_with (go_at_call 53; refine (hbg _).mono ?_; rintro e w1 ⟨rfl, rfl⟩)
    go_ret
    exact ⟨rfl, by (repeat (first | with_reducible exact Gr.refl _ | with_reducible assumption | with_reducible refine Gr.setCell ?_ (by simp; try omega) _ | with_reducible refine Gr.alloc ?_ _ | with_reducible refine Gr.drew ?_ | with_reducible refine Gr.drewN ?_ _ | with_reducible refine Gr.trans ?_ (by assumption)))⟩
set_option maxHeartbeats 1000000 in
set_option maxRecDepth 100000 in
theorem rcode_off (c m : Int) (a1 a2 : Option Addr) (n1 c1 n2 c2 : Nat) (w : World) (hb : opKind c ≠ 0 ∨ c = 92) : RCode w 3 c m ⟨#[]⟩ (.slice a1 n1 c1) (.slice a2 n2 c2) false := by
  unfold RCode
  have hbg := fun w => begun_walk c w
  by_cases h0 : opKind c = 0
  · have h92 : c = 92 := hb.resolve_left (fun h => h h0)
    rw [h0] at hbg
    subst h92
    clear hb h0
    go_enter Tryz.func37, Tryz.ntmps37
    go_wp2_with (go_at_call 53; refine (hbg _).mono ?_; rintro e w1 ⟨rfl, rfl⟩)
    go_ret
    exact ⟨rfl, by (repeat (first | with_reducible exact Gr.refl _ | with_reducible assumption | with_reducible refine Gr.setCell ?_ (by simp; try omega) _ | with_reducible refine Gr.alloc ?_ _ | with_reducible refine Gr.drew ?_ | with_reducible refine Gr.drewN ?_ _ | with_reducible refine Gr.trans ?_ (by assumption)))⟩
  · obtain ⟨y, hy⟩ : ∃ y, y = opKind c := ⟨_, rfl⟩
    rw [← hy] at hbg h0
    have q : (y != 0) = true := by simpa using h0
    clear hb h0 hy
    go_enter Tryz.func37, Tryz.ntmps37
    go_wp2_with (go_at_call 53; refine (hbg _).mono ?_; rintro e w1 ⟨rfl, rfl⟩)
    go_ret
    exact ⟨rfl, by (repeat (first | with_reducible exact Gr.refl _ | with_reducible assumption | with_reducible refine Gr.setCell ?_ (by simp; try omega) _ | with_reducible refine Gr.alloc ?_ _ | with_reducible refine Gr.drew ?_ | with_reducible refine Gr.drewN ?_ _ | with_reducible refine Gr.trans ?_ (by assumption)))⟩
/-- The document's code, whatever the token. -/
theorem rcode_any (k c m : Int) (hk : 1 ≤ k ∧ k ≤ 9) (l : List Int) (a1 a2 : Option Addr) (n1 c1 n2 c2 : Nat) (w : World) : RCode w k c m (strOf l) (.slice a1 n1 c1) (.slice a2 n2 c2) (codeB k c (decide (l = []))) := by
  rcases (by omega : k = 1 ∨ k = 2 ∨ k = 3 ∨ (k = 4 ∨ k = 5) ∨ (6 ≤ k ∧ k ≤ 9)) with rfl | rfl | rfl | h | h
  · exact rcode_1 c m _ _ _ _ _ _ _ w
  · exact rcode_2 c m _ _ _ _ _ _ _ w
  · by_cases hl : l = []
    · subst hl
      by_cases ho : opKind c = 0 ∧ c ≠ 92
      · have e : codeB 3 c (decide (([] : List Int) = [])) = inB c 48 126 := by simp [codeB, inB, ho]
        rw [e]; exact rcode_none c m _ _ _ _ _ _ w ho
      · have ho' : opKind c ≠ 0 ∨ c = 92 := by
          by_cases h1 : opKind c = 0
          · right; by_cases h2 : c = 92
            · exact h2
            · exact absurd ⟨h1, h2⟩ ho
          · exact .inl h1
        have e : codeB 3 c (decide (([] : List Int) = [])) = false := by
          unfold codeB
          rw [if_neg (by decide), if_neg (by decide), if_pos rfl]
          exact decide_eq_false (fun h => h.1 ⟨by simp, ho'⟩)
        rw [e]; exact rcode_off c m _ _ _ _ _ _ w ho'
    · have e : codeB 3 c (decide (l = [])) = inB c 48 126 := by simp [codeB, inB, hl]
      rw [e]; exact rcode_some c m _ _ _ _ _ _ _ (strOf_ne hl) w
  · have e : codeB k c (decide (l = [])) = decide (64 ≤ c ∧ c ≤ 126) := by rcases h with rfl | rfl <;> simp [codeB]
    rw [e]; exact rcode_long k c m h _ _ _ _ _ _ _ w
  · have e : codeB k c (decide (l = [])) = (c == 0) := by
      unfold codeB
      rw [if_neg (by omega), if_neg (by omega), if_neg (by omega), if_neg (by omega)]
      by_cases h0 : c = 0 <;> simp [h0]
    rw [e]; exact rcode_str k c m h _ _ _ _ _ _ _ w
end Go.Proofs.YtonbnmicgmnliaaGreatDoor

namespace Go.Proofs.YtonbnmicgmnliaaGreatDoor
set_option linter.unusedSimpArgs false
set_option linter.unusedVariables false
open Go.RowKit
set_option linter.unusedVariables false

/-- A token that came in: its numbers and bytes lie anywhere. -/
structure RdTok (w : World) (t : Tok) (a1 : Option Addr) (n1 : Nat) (a2 : Option Addr) (n2 : Nat) : Prop where
  params : Rd w a1 n1 (icells t.params)
  data : Rd w a2 n2 (bcells t.data)
  small : n1 ≤ 9223372036854775807 ∧ n2 ≤ 9223372036854775807 ∧ t.inters.length ≤ 9223372036854775807
theorem RdTok.gr {w w' : World} {t : Tok} {a1 a2 : Option Addr} {n1 n2 : Nat} (h : RdTok w t a1 n1 a2 n2) (hg : Gr w w') : RdTok w' t a1 n1 a2 n2 := ⟨h.params.gr hg, h.data.gr hg, h.small⟩
theorem RdTok.plen {w : World} {t : Tok} {a1 a2 : Option Addr} {n1 n2 : Nat} (h : RdTok w t a1 n1 a2 n2) : t.params.length = n1 := by simpa [icells] using h.params.1
theorem RdTok.dlen {w : World} {t : Tok} {a1 a2 : Option Addr} {n1 n2 : Nat} (h : RdTok w t a1 n1 a2 n2) : t.data.length = n2 := by simpa [bcells] using h.data.1

def RChecks (w : World) (k c m : Int) (s : ByteArray) (v1 v2 : Value) (r : Int) : Prop :=
  Calls Tryz.prog 26 #[.agg #[.int .i64 k, .int .u8 c, .int .u8 m, v1, .string s, v2]] w fun e w' => e = .returned (.int .i64 r) ∧ Gr w w'
set_option maxHeartbeats 1000000 in
set_option maxRecDepth 100000 in
theorem rcheck_kind {w : World} {k c m : Int} {s : ByteArray} {a1 a2 : Option Addr} {n1 c1 n2 c2 : Nat} (hk : k < 1 ∨ 9 < k) : RChecks w k c m s (.slice a1 n1 c1) (.slice a2 n2 c2) 1 := by
  unfold RChecks
  by_cases h1 : k < 1
  · clear hk
    go_enter Tryz.func26, Tryz.ntmps26
    go_wp2_with fail
    go_ret
    exact ⟨rfl, by (repeat (first | with_reducible exact Gr.refl _ | with_reducible assumption | with_reducible refine Gr.setCell ?_ (by simp; try omega) _ | with_reducible refine Gr.alloc ?_ _ | with_reducible refine Gr.drew ?_ | with_reducible refine Gr.drewN ?_ _ | with_reducible refine Gr.trans ?_ (by assumption)))⟩
  · have h2 : 9 < k := hk.resolve_left h1
    clear hk
    go_enter Tryz.func26, Tryz.ntmps26
    go_wp2_with fail
    go_ret
    exact ⟨rfl, by (repeat (first | with_reducible exact Gr.refl _ | with_reducible assumption | with_reducible refine Gr.setCell ?_ (by simp; try omega) _ | with_reducible refine Gr.alloc ?_ _ | with_reducible refine Gr.drew ?_ | with_reducible refine Gr.drewN ?_ _ | with_reducible refine Gr.trans ?_ (by assumption)))⟩
set_option maxHeartbeats 1000000 in
set_option maxRecDepth 100000 in
theorem rcheck_long {w : World} {k c m : Int} {s : ByteArray} {a1 a2 : Option Addr} {n1 c1 n2 c2 : Nat} (hk1 : 1 ≤ k) (hk9 : k ≤ 9) (hb : 3 < s.size ∨ 30 < n1 ∨ 4096 < n2) : RChecks w k c m s (.slice a1 n1 c1) (.slice a2 n2 c2) 2 := by
  unfold RChecks
  by_cases q1 : 3 < s.size
  · have q1' : decide (3 < (s.size : Int)) = true := by simp; omega
    clear hb q1
    go_enter Tryz.func26, Tryz.ntmps26
    go_wp2_with fail
    go_ret
    exact ⟨rfl, by (repeat (first | with_reducible exact Gr.refl _ | with_reducible assumption | with_reducible refine Gr.setCell ?_ (by simp; try omega) _ | with_reducible refine Gr.alloc ?_ _ | with_reducible refine Gr.drew ?_ | with_reducible refine Gr.drewN ?_ _ | with_reducible refine Gr.trans ?_ (by assumption)))⟩
  · have q1' : decide (3 < (s.size : Int)) = false := by simp; omega
    by_cases q2 : 30 < n1
    · have q2' : decide (30 < (n1 : Int)) = true := by simp; omega
      clear hb q1 q2
      go_enter Tryz.func26, Tryz.ntmps26
      go_wp2_with fail
      go_ret
      exact ⟨rfl, by (repeat (first | with_reducible exact Gr.refl _ | with_reducible assumption | with_reducible refine Gr.setCell ?_ (by simp; try omega) _ | with_reducible refine Gr.alloc ?_ _ | with_reducible refine Gr.drew ?_ | with_reducible refine Gr.drewN ?_ _ | with_reducible refine Gr.trans ?_ (by assumption)))⟩
    · have q2' : decide (30 < (n1 : Int)) = false := by simp; omega
      have q3' : decide (4096 < (n2 : Int)) = true := by simp; omega
      clear hb q1 q2
      go_enter Tryz.func26, Tryz.ntmps26
      go_wp2_with fail
      go_ret
      exact ⟨rfl, by (repeat (first | with_reducible exact Gr.refl _ | with_reducible assumption | with_reducible refine Gr.setCell ?_ (by simp; try omega) _ | with_reducible refine Gr.alloc ?_ _ | with_reducible refine Gr.drew ?_ | with_reducible refine Gr.drewN ?_ _ | with_reducible refine Gr.trans ?_ (by assumption)))⟩

/-- What Check says of a token that isn't too long, in the document's order. -/
def lateR (k c m : Int) (ps l d : List Int) : Int :=
  if ps.all (fun x => decide (0 ≤ x) && decide (x ≤ 65535)) = true then (if goodB ⟨k, c, m, ps, l, d⟩ = true then 0 else 3) else 2
set_option maxHeartbeats 2000000 in
set_option maxRecDepth 100000 in
theorem rcheck_late {w : World} {k c m : Int} {ps l d : List Int} {a1 a2 : Option Addr} {n1 c1 n2 c2 : Nat} (hk1 : 1 ≤ k) (hk9 : k ≤ 9) (hrl : ∀ c ∈ l, 0 ≤ c ∧ c < 256) (hrd : ∀ c ∈ d, 0 ≤ c ∧ c < 256) (h3 : l.length ≤ 3) (h30 : n1 ≤ 30) (h4 : n2 ≤ 4096)
    (hp : Rd w a1 n1 (icells ps)) (hd : Rd w a2 n2 (bcells d)) : RChecks w k c m (strOf l) (.slice a1 n1 c1) (.slice a2 n2 c2) (lateR k c m ps l d) := by
  have hpl : ps.length = n1 := by simpa [icells] using hp.1
  have hdl : d.length = n2 := by simpa [bcells] using hd.1
  have hsz := strOf_size' l
  have HS : Hid (∀ k (hk : k < (strOf l).size), ∃ x, l[k]? = some x ∧ (((strOf l)[k]'hk).toNat : Int) = x) := Lib.hid fun k hk => strOf_at hrl hk
  have hcd := fun w' => rcode_any k c m ⟨hk1, hk9⟩ l a1 a2 n1 c1 n2 c2 w'
  unfold RCode at hcd
  obtain ⟨B, hB⟩ : ∃ B, B = codeB k c (decide (l = [])) := ⟨_, rfl⟩
  rw [← hB] at hcd
  have HB := Lib.hid hB; clear hB
  obtain ⟨s, hsd⟩ : ∃ s, s = strOf l := ⟨_, rfl⟩
  unfold RChecks
  rw [← hsd] at hsz HS hcd ⊢
  have HSD := Lib.hid hsd
  have hs3 : s.size ≤ 3 := by omega
  have HSZ := Lib.hid hsz
  have HPL := Lib.hid hpl
  have HRD := Lib.hid hrd
  have HDL := Lib.hid hdl
  have hw0 := (Gr.refl w).alloc (.cells #[.int .i64 k, .int .u8 c, .int .u8 m, .slice a1 n1 c1, .string s, .slice a2 n2 c2] 65)
  have hb0 := heap_alloc_new w (.cells #[.int .i64 k, .int .u8 c, .int .u8 m, .slice a1 n1 c1, .string s, .slice a2 n2 c2] 65)
  have q1 : decide (3 < (s.size : Int)) = false := by simp; omega
  have q2 : decide (30 < (n1 : Int)) = false := by simp; omega
  have q3 : decide (4096 < (n2 : Int)) = false := by simp; omega
  have hp2 := hp.gr hw0
  have hd2 := hd.gr hw0
  clear hsd hsz hpl hdl hp hd hrl h3 hrd
  go_enter Tryz.func26, Tryz.ntmps26
  go_wp2_with fail
  go_loop [3] (fun i => ∃ j : Nat, j ≤ n1 ∧ i = .int .i64 j ∧ ∀ x ∈ ps.take j, 0 ≤ x ∧ x ≤ 65535) (fun i => n1 - (intOf i).toNat)
  case atStart => exact ⟨0, Nat.zero_le _, rfl, by simp⟩
  case round =>
    obtain ⟨j, hj, rfl, hall⟩ := hrel
    by_cases hlt : j < n1
    · obtain ⟨b, off, u, rfl, hu, hcell, hb⟩ := hp2.at_ hlt
      obtain ⟨x, hx, rfl⟩ : ∃ x, ps[j]? = some x ∧ u = .int .i64 x := by
        simp only [icells, List.getElem?_map] at hu
        rcases hx : ps[j]? with _ | x
        · rw [hx] at hu; cases hu
        · rw [hx] at hu; simp at hu; exact ⟨x, rfl, hu.symm⟩
      have hjn : (j : Int) < (n1 : Int) := by omega
      have HX := Lib.hid hx
      by_cases hxr : 0 ≤ x ∧ x ≤ 65535
      · have HA := Lib.hid (show ∀ y ∈ ps.take (j + 1), 0 ≤ y ∧ y ≤ 65535 by
          intro y hy
          rw [List.take_add_one, hx] at hy
          rcases List.mem_append.1 hy with hy | hy
          · exact hall y hy
          · simp at hy; subst hy; exact hxr)
        obtain ⟨x1, x2⟩ := hxr
        clear hall hu hx hp2 hd2 hcd
        go_wp2_with fail
        go_round
        case rel => exact ⟨j + 1, by omega, by go_num, HA.out⟩
        case measure => simp [intOf]; omega
      · have HN := Lib.hid (show lateR k c m ps l d = 2 by
          unfold lateR
          rw [if_neg]
          intro e
          have := List.all_eq_true.1 e x (List.mem_of_getElem? hx)
          simp at this
          exact hxr this)
        rcases (by omega : x < 0 ∨ (0 ≤ x ∧ 65535 < x)) with hy | ⟨hy, hz⟩
        all_goals
          clear hall hu hx hp2 hd2 hcd hxr
          go_wp2_with fail
          go_ret
          exact ⟨by rw [HN.out]; rfl, hw0⟩
    · have hjn : ¬ (j : Int) < (n1 : Int) := by omega
      have HP := Lib.hid (show ps.all (fun x => decide (0 ≤ x) && decide (x ≤ 65535)) = true by
        rw [List.take_of_length_le (by have := HPL.out; omega)] at hall
        exact List.all_eq_true.2 fun x hx => by have := hall x hx; simp; omega)
      clear hall hp2
      go_wp2_with fail
      go_loop [4] (fun i => ∃ i1 : Nat, i1 ≤ s.size ∧ i = .int .i64 i1 ∧ ∀ x ∈ l.take i1, interB x = true) (fun i => s.size - (intOf i).toNat)
      case atStart => exact ⟨0, Nat.zero_le _, rfl, by simp⟩
      case round =>
        obtain ⟨i1, hi1, rfl, hall⟩ := hrel
        by_cases hlt : i1 < s.size
        · obtain ⟨x, hx, hxs⟩ := HS.out i1 hlt
          have hjn1 : (i1 : Int) < (s.size : Int) := by omega
          by_cases hxr : 32 ≤ x ∧ x ≤ 47
          · have HA := Lib.hid (show ∀ y ∈ l.take (i1 + 1), interB y = true by
              intro y hy
              rw [List.take_add_one, hx] at hy
              rcases List.mem_append.1 hy with hy | hy
              · exact hall y hy
              · simp at hy; subst hy; exact decide_eq_true hxr)
            obtain ⟨x1, x2⟩ := hxr
            rw [← hxs] at x1 x2
            clear hall hx hxs hd2 hcd
            go_wp2_with fail
            go_round
            case rel => exact ⟨i1 + 1, by omega, by go_num, HA.out⟩
            case measure => simp [intOf]; omega
          · have HN := Lib.hid (show lateR k c m ps l d = 3 by
              unfold lateR
              rw [if_pos HP.out, if_neg]
              intro e
              simp only [goodB, Bool.and_eq_true] at e
              have := List.all_eq_true.1 e.2.2.1 x (List.mem_of_getElem? hx)
              exact hxr (of_decide_eq_true this))
            have hxr2 : (((s[i1]'hlt).toNat : Int) < 32) ∨ (32 ≤ ((s[i1]'hlt).toNat : Int) ∧ 47 < ((s[i1]'hlt).toNat : Int)) := by rw [hxs]; omega
            clear hall hx hxs hd2 hcd hxr
            rcases hxr2 with hy | ⟨hy, hz⟩
            all_goals
              go_wp2_with fail
              go_ret
              exact ⟨by rw [HN.out]; rfl, hw0⟩
        · have hjn1 : ¬ (i1 : Int) < (s.size : Int) := by omega
          have HL := Lib.hid (show l.all interB = true by
            rw [List.take_of_length_le (by have := HSZ.out; omega)] at hall
            exact List.all_eq_true.2 hall)
          clear hall
          go_wp2_with fail
          go_loop [5] (fun i => ∃ i2 : Nat, i2 ≤ n2 ∧ i = .int .i64 i2 ∧ ∀ x ∈ d.take i2, dataOk x = true) (fun i => n2 - (intOf i).toNat)
          case atStart => exact ⟨0, Nat.zero_le _, rfl, by simp⟩
          case round =>
            obtain ⟨i2, hi2, rfl, hall⟩ := hrel
            by_cases hlt2 : i2 < n2
            · obtain ⟨b, off, u, rfl, hu, hcell, hb⟩ := hd2.at_ hlt2
              obtain ⟨x, hx, rfl⟩ : ∃ x, d[i2]? = some x ∧ u = .int .u8 x := by
                simp only [bcells, List.getElem?_map] at hu
                rcases hx : d[i2]? with _ | x
                · rw [hx] at hu; cases hu
                · rw [hx] at hu; simp at hu; exact ⟨x, rfl, hu.symm⟩
              have hjn2 : (i2 : Int) < (n2 : Int) := by omega
              have hda := fun w => rdata_any x (HRD.out x (List.mem_of_getElem? hx)) w
              cases hdx : dataOk x with
              | true =>
                have HA := Lib.hid (show ∀ y ∈ d.take (i2 + 1), dataOk y = true by
                  intro y hy
                  rw [List.take_add_one, hx] at hy
                  rcases List.mem_append.1 hy with hy | hy
                  · exact hall y hy
                  · simp at hy; subst hy; exact hdx)
                rw [hdx] at hda
                clear hall hu hx hd2 hcd hdx
                go_wp2_with (go_at_call 36; refine (hda _).mono ?_; rintro e w1 ⟨rfl, rfl⟩)
                go_round
                case rel => exact ⟨i2 + 1, by omega, by go_num, HA.out⟩
                case measure => simp [intOf]; omega
              | false =>
                have HN := Lib.hid (show lateR k c m ps l d = 3 by
                  unfold lateR
                  rw [if_pos HP.out, if_neg]
                  intro e
                  simp only [goodB, Bool.and_eq_true] at e
                  have := List.all_eq_true.1 e.2.2.2.1 x (List.mem_of_getElem? hx)
                  rw [this] at hdx; cases hdx)
                rw [hdx] at hda
                clear hall hu hx hd2 hcd hdx
                go_wp2_with (go_at_call 36; refine (hda _).mono ?_; rintro e w1 ⟨rfl, rfl⟩)
                go_ret
                exact ⟨by rw [HN.out]; rfl, hw0⟩
            · have hjn2 : ¬ (i2 : Int) < (n2 : Int) := by omega
              have HG := Lib.hid (show lateR k c m ps l d = if (B && (decide (m = 0 ∨ (60 ≤ m ∧ m ≤ 63)) && restB ⟨k, c, m, ps, l, d⟩)) = true then 0 else 3 by
                rw [List.take_of_length_le (by have := HDL.out; omega)] at hall
                unfold lateR
                rw [if_pos HP.out]
                unfold goodB
                simp only [HL.out, List.all_eq_true.2 hall, ← HB.out, Bool.true_and])
              clear hall hd2
-- LAST
              cases B with
              | false =>
                go_wp2_with (go_at_call 37; refine (hcd _).mono ?_; rintro e w5 ⟨rfl, hg5⟩; obtain ⟨z0, z1, z2, z3, z4, z5, zf⟩ := cells6 (hg5.blk hb0))
                go_ret
                refine ⟨?_, hw0.trans hg5⟩
                rw [HG.out, if_neg (by simp [restB])]
                rfl
              | true =>
                rcases (by omega : m = 0 ∨ (m < 60 ∧ m ≠ 0) ∨ (60 ≤ m ∧ m ≤ 63) ∨ (60 ≤ m ∧ 63 < m)) with hm | hm | hm | hm
                · subst hm
                  rcases (by omega : k = 4 ∨ k = 5 ∨ k = 3 ∨ (k = 1 ∨ k = 2) ∨ (6 ≤ k ∧ k ≤ 9)) with hk | hk | hk | hk | hk
                  · subst hk
                    by_cases hn2 : n2 = 0
                    · have HD0 := Lib.hid (show d = [] from List.eq_nil_of_length_eq_zero (by rw [HDL.out]; exact hn2))
                      have r2 : ¬ 0 < n2 := by omega
                      clear hn2
                      go_wp2_with (go_at_call 37; refine (hcd _).mono ?_; rintro e w5 ⟨rfl, hg5⟩; obtain ⟨z0, z1, z2, z3, z4, z5, zf⟩ := cells6 (hg5.blk hb0))
                      go_ret
                      refine ⟨?_, hw0.trans hg5⟩
                      rw [HG.out, if_pos (by simp [restB, HD0.out])]
                      rfl
                    · have HD0 := Lib.hid (show d ≠ [] from fun e => hn2 (by rw [← HDL.out, e]; rfl))
                      have r2 : 0 < n2 := by omega
                      clear hn2
                      go_wp2_with (go_at_call 37; refine (hcd _).mono ?_; rintro e w5 ⟨rfl, hg5⟩; obtain ⟨z0, z1, z2, z3, z4, z5, zf⟩ := cells6 (hg5.blk hb0))
                      go_ret
                      refine ⟨?_, hw0.trans hg5⟩
                      rw [HG.out, if_neg (by simp [restB, HD0.out])]
                      rfl
                  · subst hk
                    go_wp2_with (go_at_call 37; refine (hcd _).mono ?_; rintro e w5 ⟨rfl, hg5⟩; obtain ⟨z0, z1, z2, z3, z4, z5, zf⟩ := cells6 (hg5.blk hb0))
                    go_ret
                    refine ⟨?_, hw0.trans hg5⟩
                    rw [HG.out, if_pos (by simp [restB])]
                    rfl
                  · subst hk
                    by_cases hn1 : n1 = 0
                    · have HP0 := Lib.hid (show ps = [] from List.eq_nil_of_length_eq_zero (by rw [HPL.out]; exact hn1))
                      have r1 : ¬ 0 < n1 := by omega
                      clear hn1
                      by_cases hn2 : n2 = 0
                      · have HD0 := Lib.hid (show d = [] from List.eq_nil_of_length_eq_zero (by rw [HDL.out]; exact hn2))
                        have r2 : ¬ 0 < n2 := by omega
                        clear hn2
                        go_wp2_with (go_at_call 37; refine (hcd _).mono ?_; rintro e w5 ⟨rfl, hg5⟩; obtain ⟨z0, z1, z2, z3, z4, z5, zf⟩ := cells6 (hg5.blk hb0))
                        go_ret
                        refine ⟨?_, hw0.trans hg5⟩
                        rw [HG.out, if_pos (by simp [restB, HP0.out, HD0.out])]
                        rfl
                      · have HD0 := Lib.hid (show d ≠ [] from fun e => hn2 (by rw [← HDL.out, e]; rfl))
                        have r2 : 0 < n2 := by omega
                        clear hn2
                        go_wp2_with (go_at_call 37; refine (hcd _).mono ?_; rintro e w5 ⟨rfl, hg5⟩; obtain ⟨z0, z1, z2, z3, z4, z5, zf⟩ := cells6 (hg5.blk hb0))
                        go_ret
                        refine ⟨?_, hw0.trans hg5⟩
                        rw [HG.out, if_neg (by simp [restB, HP0.out, HD0.out])]
                        rfl
                    · have HP0 := Lib.hid (show ps ≠ [] from fun e => hn1 (by rw [← HPL.out, e]; rfl))
                      have r1 : 0 < n1 := by omega
                      clear hn1
                      go_wp2_with (go_at_call 37; refine (hcd _).mono ?_; rintro e w5 ⟨rfl, hg5⟩; obtain ⟨z0, z1, z2, z3, z4, z5, zf⟩ := cells6 (hg5.blk hb0))
                      go_ret
                      refine ⟨?_, hw0.trans hg5⟩
                      rw [HG.out, if_neg (by simp [restB, HP0.out])]
                      rfl
                  · rcases hk with rfl | rfl
                    · skip
                      by_cases hn1 : n1 = 0
                      · have HP0 := Lib.hid (show ps = [] from List.eq_nil_of_length_eq_zero (by rw [HPL.out]; exact hn1))
                        have r1 : ¬ 0 < n1 := by omega
                        clear hn1
                        by_cases hl0 : l = []
                        · have HL0 := Lib.hid hl0
                          have hse : s = ⟨#[]⟩ := by rw [HSD.out, hl0]; rfl
                          clear hl0
                          subst hse
                          by_cases hn2 : n2 = 0
                          · have HD0 := Lib.hid (show d = [] from List.eq_nil_of_length_eq_zero (by rw [HDL.out]; exact hn2))
                            have r2 : ¬ 0 < n2 := by omega
                            clear hn2
                            go_wp2_with (go_at_call 37; refine (hcd _).mono ?_; rintro e w5 ⟨rfl, hg5⟩; obtain ⟨z0, z1, z2, z3, z4, z5, zf⟩ := cells6 (hg5.blk hb0))
                            go_ret
                            refine ⟨?_, hw0.trans hg5⟩
                            rw [HG.out, if_pos (by simp [restB, HP0.out, HL0.out, HD0.out])]
                            rfl
                          · have HD0 := Lib.hid (show d ≠ [] from fun e => hn2 (by rw [← HDL.out, e]; rfl))
                            have r2 : 0 < n2 := by omega
                            clear hn2
                            go_wp2_with (go_at_call 37; refine (hcd _).mono ?_; rintro e w5 ⟨rfl, hg5⟩; obtain ⟨z0, z1, z2, z3, z4, z5, zf⟩ := cells6 (hg5.blk hb0))
                            go_ret
                            refine ⟨?_, hw0.trans hg5⟩
                            rw [HG.out, if_neg (by simp [restB, HP0.out, HL0.out, HD0.out])]
                            rfl
                        · have HL0 := Lib.hid hl0
                          obtain ⟨p1, p2, p3⟩ := qstr (s := s) (by rw [HSD.out]; exact strOf_ne hl0)
                          have p4 : (!s.toList.isEmpty) = true := by rw [p1]; rfl
                          clear hl0
                          go_wp2_with (go_at_call 37; refine (hcd _).mono ?_; rintro e w5 ⟨rfl, hg5⟩; obtain ⟨z0, z1, z2, z3, z4, z5, zf⟩ := cells6 (hg5.blk hb0))
                          go_ret
                          refine ⟨?_, hw0.trans hg5⟩
                          rw [HG.out, if_neg (by simp [restB, HP0.out, HL0.out])]
                          rfl
                      · have HP0 := Lib.hid (show ps ≠ [] from fun e => hn1 (by rw [← HPL.out, e]; rfl))
                        have r1 : 0 < n1 := by omega
                        clear hn1
                        go_wp2_with (go_at_call 37; refine (hcd _).mono ?_; rintro e w5 ⟨rfl, hg5⟩; obtain ⟨z0, z1, z2, z3, z4, z5, zf⟩ := cells6 (hg5.blk hb0))
                        go_ret
                        refine ⟨?_, hw0.trans hg5⟩
                        rw [HG.out, if_neg (by simp [restB, HP0.out])]
                        rfl
                    · skip
                      by_cases hn1 : n1 = 0
                      · have HP0 := Lib.hid (show ps = [] from List.eq_nil_of_length_eq_zero (by rw [HPL.out]; exact hn1))
                        have r1 : ¬ 0 < n1 := by omega
                        clear hn1
                        by_cases hl0 : l = []
                        · have HL0 := Lib.hid hl0
                          have hse : s = ⟨#[]⟩ := by rw [HSD.out, hl0]; rfl
                          clear hl0
                          subst hse
                          by_cases hn2 : n2 = 0
                          · have HD0 := Lib.hid (show d = [] from List.eq_nil_of_length_eq_zero (by rw [HDL.out]; exact hn2))
                            have r2 : ¬ 0 < n2 := by omega
                            clear hn2
                            go_wp2_with (go_at_call 37; refine (hcd _).mono ?_; rintro e w5 ⟨rfl, hg5⟩; obtain ⟨z0, z1, z2, z3, z4, z5, zf⟩ := cells6 (hg5.blk hb0))
                            go_ret
                            refine ⟨?_, hw0.trans hg5⟩
                            rw [HG.out, if_pos (by simp [restB, HP0.out, HL0.out, HD0.out])]
                            rfl
                          · have HD0 := Lib.hid (show d ≠ [] from fun e => hn2 (by rw [← HDL.out, e]; rfl))
                            have r2 : 0 < n2 := by omega
                            clear hn2
                            go_wp2_with (go_at_call 37; refine (hcd _).mono ?_; rintro e w5 ⟨rfl, hg5⟩; obtain ⟨z0, z1, z2, z3, z4, z5, zf⟩ := cells6 (hg5.blk hb0))
                            go_ret
                            refine ⟨?_, hw0.trans hg5⟩
                            rw [HG.out, if_neg (by simp [restB, HP0.out, HL0.out, HD0.out])]
                            rfl
                        · have HL0 := Lib.hid hl0
                          obtain ⟨p1, p2, p3⟩ := qstr (s := s) (by rw [HSD.out]; exact strOf_ne hl0)
                          have p4 : (!s.toList.isEmpty) = true := by rw [p1]; rfl
                          clear hl0
                          go_wp2_with (go_at_call 37; refine (hcd _).mono ?_; rintro e w5 ⟨rfl, hg5⟩; obtain ⟨z0, z1, z2, z3, z4, z5, zf⟩ := cells6 (hg5.blk hb0))
                          go_ret
                          refine ⟨?_, hw0.trans hg5⟩
                          rw [HG.out, if_neg (by simp [restB, HP0.out, HL0.out])]
                          rfl
                      · have HP0 := Lib.hid (show ps ≠ [] from fun e => hn1 (by rw [← HPL.out, e]; rfl))
                        have r1 : 0 < n1 := by omega
                        clear hn1
                        go_wp2_with (go_at_call 37; refine (hcd _).mono ?_; rintro e w5 ⟨rfl, hg5⟩; obtain ⟨z0, z1, z2, z3, z4, z5, zf⟩ := cells6 (hg5.blk hb0))
                        go_ret
                        refine ⟨?_, hw0.trans hg5⟩
                        rw [HG.out, if_neg (by simp [restB, HP0.out])]
                        rfl
                  · have k4 : (k == 4) = false := by simp; omega
                    have k5 : (k == 5) = false := by simp; omega
                    have k3 : (k != 3) = true := by simp; omega
                    have kl : decide (k < 5) = false := by simp; omega
                    have e5 : restB ⟨k, c, 0, ps, l, d⟩ = decide (0 = 0 ∧ ps = [] ∧ l = []) := by
                      unfold restB; simp only; rw [if_neg (by omega), if_neg (by omega), if_neg (by omega), if_neg (by omega)]
                    rw [e5] at HG
                    clear e5
                    by_cases hn1 : n1 = 0
                    · have HP0 := Lib.hid (show ps = [] from List.eq_nil_of_length_eq_zero (by rw [HPL.out]; exact hn1))
                      have r1 : ¬ 0 < n1 := by omega
                      clear hn1
                      by_cases hl0 : l = []
                      · have HL0 := Lib.hid hl0
                        have hse : s = ⟨#[]⟩ := by rw [HSD.out, hl0]; rfl
                        clear hl0
                        subst hse
                        go_wp2_with (go_at_call 37; refine (hcd _).mono ?_; rintro e w5 ⟨rfl, hg5⟩; obtain ⟨z0, z1, z2, z3, z4, z5, zf⟩ := cells6 (hg5.blk hb0))
                        go_ret
                        refine ⟨?_, hw0.trans hg5⟩
                        rw [HG.out, if_pos (by simp [HP0.out, HL0.out ])]
                        rfl
                      · have HL0 := Lib.hid hl0
                        obtain ⟨p1, p2, p3⟩ := qstr (s := s) (by rw [HSD.out]; exact strOf_ne hl0)
                        have p4 : (!s.toList.isEmpty) = true := by rw [p1]; rfl
                        clear hl0
                        go_wp2_with (go_at_call 37; refine (hcd _).mono ?_; rintro e w5 ⟨rfl, hg5⟩; obtain ⟨z0, z1, z2, z3, z4, z5, zf⟩ := cells6 (hg5.blk hb0))
                        go_ret
                        refine ⟨?_, hw0.trans hg5⟩
                        rw [HG.out, if_neg (by simp [restB, HP0.out, HL0.out])]
                        rfl
                    · have HP0 := Lib.hid (show ps ≠ [] from fun e => hn1 (by rw [← HPL.out, e]; rfl))
                      have r1 : 0 < n1 := by omega
                      clear hn1
                      go_wp2_with (go_at_call 37; refine (hcd _).mono ?_; rintro e w5 ⟨rfl, hg5⟩; obtain ⟨z0, z1, z2, z3, z4, z5, zf⟩ := cells6 (hg5.blk hb0))
                      go_ret
                      refine ⟨?_, hw0.trans hg5⟩
                      rw [HG.out, if_neg (by simp [restB, HP0.out])]
                      rfl
                · have hmz : (m != 0) = true := by simp; omega
                  have HMR := Lib.hid (show ¬ (m = 0 ∨ (60 ≤ m ∧ m ≤ 63)) by omega)
                  obtain ⟨hm1, hm2⟩ := hm
                  go_wp2_with (go_at_call 37; refine (hcd _).mono ?_; rintro e w5 ⟨rfl, hg5⟩; obtain ⟨z0, z1, z2, z3, z4, z5, zf⟩ := cells6 (hg5.blk hb0))
                  go_ret
                  refine ⟨?_, hw0.trans hg5⟩
                  rw [HG.out, if_neg (by simp [restB, HMR.out])]
                  rfl
                · have hmz : (m != 0) = true := by simp; omega
                  have HMR := Lib.hid (show m ≠ 0 ∧ 60 ≤ m ∧ m ≤ 63 by omega)
                  obtain ⟨hm1, hm2⟩ := hm
                  rcases (by omega : k = 4 ∨ k = 5 ∨ k = 3 ∨ (k = 1 ∨ k = 2) ∨ (6 ≤ k ∧ k ≤ 9)) with hk | hk | hk | hk | hk
                  · subst hk
                    by_cases hn2 : n2 = 0
                    · have HD0 := Lib.hid (show d = [] from List.eq_nil_of_length_eq_zero (by rw [HDL.out]; exact hn2))
                      have r2 : ¬ 0 < n2 := by omega
                      clear hn2
                      go_wp2_with (go_at_call 37; refine (hcd _).mono ?_; rintro e w5 ⟨rfl, hg5⟩; obtain ⟨z0, z1, z2, z3, z4, z5, zf⟩ := cells6 (hg5.blk hb0))
                      go_ret
                      refine ⟨?_, hw0.trans hg5⟩
                      rw [HG.out, if_pos (by simp [restB, HMR.out, HD0.out])]
                      rfl
                    · have HD0 := Lib.hid (show d ≠ [] from fun e => hn2 (by rw [← HDL.out, e]; rfl))
                      have r2 : 0 < n2 := by omega
                      clear hn2
                      go_wp2_with (go_at_call 37; refine (hcd _).mono ?_; rintro e w5 ⟨rfl, hg5⟩; obtain ⟨z0, z1, z2, z3, z4, z5, zf⟩ := cells6 (hg5.blk hb0))
                      go_ret
                      refine ⟨?_, hw0.trans hg5⟩
                      rw [HG.out, if_neg (by simp [restB, HMR.out, HD0.out])]
                      rfl
                  · subst hk
                    go_wp2_with (go_at_call 37; refine (hcd _).mono ?_; rintro e w5 ⟨rfl, hg5⟩; obtain ⟨z0, z1, z2, z3, z4, z5, zf⟩ := cells6 (hg5.blk hb0))
                    go_ret
                    refine ⟨?_, hw0.trans hg5⟩
                    rw [HG.out, if_pos (by simp [restB, HMR.out])]
                    rfl
                  · subst hk
                    go_wp2_with (go_at_call 37; refine (hcd _).mono ?_; rintro e w5 ⟨rfl, hg5⟩; obtain ⟨z0, z1, z2, z3, z4, z5, zf⟩ := cells6 (hg5.blk hb0))
                    go_ret
                    refine ⟨?_, hw0.trans hg5⟩
                    rw [HG.out, if_neg (by simp [restB, HMR.out])]
                    rfl
                  · rcases hk with rfl | rfl
                    · skip
                      go_wp2_with (go_at_call 37; refine (hcd _).mono ?_; rintro e w5 ⟨rfl, hg5⟩; obtain ⟨z0, z1, z2, z3, z4, z5, zf⟩ := cells6 (hg5.blk hb0))
                      go_ret
                      refine ⟨?_, hw0.trans hg5⟩
                      rw [HG.out, if_neg (by simp [restB, HMR.out])]
                      rfl
                    · skip
                      go_wp2_with (go_at_call 37; refine (hcd _).mono ?_; rintro e w5 ⟨rfl, hg5⟩; obtain ⟨z0, z1, z2, z3, z4, z5, zf⟩ := cells6 (hg5.blk hb0))
                      go_ret
                      refine ⟨?_, hw0.trans hg5⟩
                      rw [HG.out, if_neg (by simp [restB, HMR.out])]
                      rfl
                  · have k4 : (k == 4) = false := by simp; omega
                    have k5 : (k == 5) = false := by simp; omega
                    have k3 : (k != 3) = true := by simp; omega
                    have kl : decide (k < 5) = false := by simp; omega
                    have e5 : restB ⟨k, c, m, ps, l, d⟩ = decide (m = 0 ∧ ps = [] ∧ l = []) := by
                      unfold restB; simp only; rw [if_neg (by omega), if_neg (by omega), if_neg (by omega), if_neg (by omega)]
                    rw [e5] at HG
                    clear e5
                    go_wp2_with (go_at_call 37; refine (hcd _).mono ?_; rintro e w5 ⟨rfl, hg5⟩; obtain ⟨z0, z1, z2, z3, z4, z5, zf⟩ := cells6 (hg5.blk hb0))
                    go_ret
                    refine ⟨?_, hw0.trans hg5⟩
                    rw [HG.out, if_neg (by simp [HMR.out ])]
                    rfl
                · have hmz : (m != 0) = true := by simp; omega
                  have HMR := Lib.hid (show ¬ (m = 0 ∨ (60 ≤ m ∧ m ≤ 63)) by omega)
                  obtain ⟨hm1, hm2⟩ := hm
                  go_wp2_with (go_at_call 37; refine (hcd _).mono ?_; rintro e w5 ⟨rfl, hg5⟩; obtain ⟨z0, z1, z2, z3, z4, z5, zf⟩ := cells6 (hg5.blk hb0))
                  go_ret
                  refine ⟨?_, hw0.trans hg5⟩
                  rw [HG.out, if_neg (by simp [restB, HMR.out])]
                  rfl
-- END
end Go.Proofs.YtonbnmicgmnliaaGreatDoor

namespace Go.Proofs.YtonbnmicgmnliaaGreatDoor
set_option linter.unusedSimpArgs false
set_option linter.unusedVariables false
open Go.RowKit
set_option linter.unusedVariables false

theorem rcheck_any {w : World} {t : Tok} {a1 a2 : Option Addr} {n1 c1 n2 c2 : Nat} (hr : TRange t) (h : RdTok w t a1 n1 a2 n2) : RChecks w t.kind t.code t.mark (strOf t.inters) (.slice a1 n1 c1) (.slice a2 n2 c2) (checkR t) := by
  obtain ⟨k, c, m, ps, l, d⟩ := t
  have hpl : ps.length = n1 := h.plen
  have hdl : d.length = n2 := h.dlen
  unfold checkR
  simp only
  by_cases hk : k < 1 ∨ 9 < k
  · rw [if_pos hk]; exact rcheck_kind hk
  · rw [if_neg hk]
    have hsz : (strOf l).size = l.length := strOf_size' l
    by_cases hb : 3 < l.length ∨ 30 < n1 ∨ 4096 < n2
    · have hg : greatB ps l d = true := by
        rw [greatB_iff]
        rcases hb with h | h | h
        · exact .inl h
        · exact .inr (.inl (by omega))
        · exact .inr (.inr (.inl (by omega)))
      rw [if_pos hg]
      exact rcheck_long (by omega) (by omega) (by rw [hsz]; exact hb)
    · have hl := rcheck_late (w := w) (k := k) (c := c) (m := m) (ps := ps) (l := l) (d := d) (c1 := c1) (c2 := c2) (by omega) (by omega) hr.inters hr.data (by omega) (by omega) (by omega) h.params h.data
      have e : lateR k c m ps l d = if greatB ps l d = true then 2 else if goodB ⟨k, c, m, ps, l, d⟩ = true then 0 else 3 := by
        unfold lateR
        by_cases ha : ps.all (fun x => decide (0 ≤ x) && decide (x ≤ 65535)) = true
        · have hG : ¬ greatB ps l d = true := by
            rw [greatB_iff]
            rintro (h1 | h1 | h1 | ⟨x, hx, hn⟩)
            · omega
            · omega
            · omega
            · have := List.all_eq_true.1 ha x hx
              simp at this
              exact hn this
          rw [if_pos ha]
          simp [hG]
        · have hG : greatB ps l d = true := by
            rw [greatB_iff]
            refine .inr (.inr (.inr ?_))
            apply Classical.byContradiction
            intro hn
            refine ha (List.all_eq_true.2 fun x hx => ?_)
            have : 0 ≤ x ∧ x ≤ 65535 := Classical.byContradiction fun hh => hn ⟨x, hx, hh⟩
            simp [this]
          rw [if_neg ha]
          simp [hG]
      rw [e] at hl
      exact hl

theorem icells_get {l : List Int} {k : Nat} {u : Value} (h : (icells l)[k]? = some u) : ∃ x, l[k]? = some x ∧ u = .int .i64 x := by
  simp only [icells, List.getElem?_map] at h
  rcases hx : l[k]? with _ | x
  · rw [hx] at h; cases h
  · rw [hx] at h; simp at h; exact ⟨x, rfl, h.symm⟩
theorem icells_len (l : List Int) : (icells l).length = l.length := by simp [icells]
end Go.Proofs.YtonbnmicgmnliaaGreatDoor
