/-
  A token that can be is one: token.Check, walked.
-/
import Derived.Test.YtjfffkaifcajbaaDoorZPdS
namespace Go.Proofs.YtjfffkaifcajbaaDoor
set_option linter.unusedSimpArgs false
set_option linter.unusedVariables false
open Go.RowKit

theorem strOf_nil : strOf [] = ⟨#[]⟩ := rfl
theorem strOf_ne {l : List Int} (h : l ≠ []) : strOf l ≠ ⟨#[]⟩ := by
  intro e
  have := congrArg ByteArray.size e
  rw [show (strOf l).size = l.length from (by show (strOf l).data.size = l.length; simp [strOf])] at this
  have h2 : (⟨#[]⟩ : ByteArray).size = 0 := rfl
  rw [h2] at this
  exact h (List.eq_nil_of_length_eq_zero this)
set_option maxHeartbeats 1000000 in
set_option maxRecDepth 100000 in
theorem bare_true (k c : Int) (a a2 : Option Addr) (c1 c2 : Nat) (w : World) : Calls Tryd.prog 64 #[.agg #[.int .i64 k, .int .u8 c, .int .u8 0, .slice a 0 c1, .string ⟨#[]⟩, .slice a2 0 c2]] w fun e w' => e = .returned (.bool true) ∧ Gr w w' := by
  go_enter Tryd.func64, Tryd.ntmps64
  go_wp2
  go_ret
  exact ⟨rfl, by (repeat (first | with_reducible exact Gr.refl _ | with_reducible assumption | with_reducible refine Gr.setCell ?_ (by simp; try omega) _ | with_reducible refine Gr.alloc ?_ _ | with_reducible refine Gr.drew ?_ | with_reducible refine Gr.drewN ?_ _ | with_reducible refine Gr.trans ?_ (by assumption)))⟩
set_option maxHeartbeats 1000000 in
set_option maxRecDepth 100000 in
theorem great_false {w : World} {k c m : Int} {ps l d : List Int} {qp qd : Value} (hp : NumsL ps) (hl : IntsOk l) (hd : d.length ≤ 4096) (h1 : HasRow w 3 qp ps.length (icells ps)) (h2 : HasRow w 5 qd d.length (bcells d)) :
    Calls Tryd.prog 59 #[.agg #[.int .i64 k, .int .u8 c, .int .u8 m, qp, .string (strOf l), qd]] w fun e w' => e = .returned (.bool false) ∧ Gr w w' := by
  obtain ⟨a1, c1, rfl⟩ := h1.form
  obtain ⟨a2, c2, rfl⟩ := h2.form
  have hs : (strOf l).size = l.length := by
    show (strOf l).data.size = l.length
    simp [strOf]
  have hl3 := hl.1
  have hp30 := hp.1
  have hg := (Gr.refl w).alloc (.cells #[.int .i64 k, .int .u8 c, .int .u8 m, .slice a1 ps.length c1, .string (strOf l), .slice a2 d.length c2] 50)
  have hc := contains_none (h1.gr hg) hp
  obtain ⟨s, hsd⟩ : ∃ s, s = strOf l := ⟨_, rfl⟩
  rw [← hsd] at hs hc hg ⊢
  have hs3 : s.size ≤ 3 := by omega
  have q1 : decide (3 < (s.size : Int)) = false := by simp; omega
  have q2 : decide (30 < (ps.length : Int)) = false := by simp; omega
  have q3 : decide (4096 < (d.length : Int)) = false := by simp; omega
  clear hs hsd h1 h2 hp hl hl3
  go_enter Tryd.func59, Tryd.ntmps59
  go_wp2_with (go_at_call 75; refine hc.mono ?_; rintro e w1 ⟨rfl, rfl⟩)
  go_ret
  exact ⟨rfl, hg⟩

set_option maxHeartbeats 1000000 in
set_option maxRecDepth 100000 in
theorem code_print (c m : Int) (a1 a2 : Option Addr) (n1 c1 n2 c2 : Nat) (s : ByteArray) (w : World) (h : (32 ≤ c ∧ c ≤ 126) ∨ 160 ≤ c) : Calls Tryd.prog 60 #[.agg #[.int .i64 1, .int .u8 c, .int .u8 m, .slice a1 n1 c1, .string s, .slice a2 n2 c2]] w fun e w' => e = .returned (.bool true) ∧ Gr w w' := by
  have H := Lib.hid h
  clear h
  go_enter Tryd.func60, Tryd.ntmps60
  go_wp2_with (go_at_call 76; refine (shows_true c _ H.out).mono ?_; rintro e w1 ⟨rfl, rfl⟩)
  go_ret
  exact ⟨rfl, by (repeat (first | with_reducible exact Gr.refl _ | with_reducible assumption | with_reducible refine Gr.setCell ?_ (by simp; try omega) _ | with_reducible refine Gr.alloc ?_ _ | with_reducible refine Gr.drew ?_ | with_reducible refine Gr.drewN ?_ _ | with_reducible refine Gr.trans ?_ (by assumption)))⟩
set_option maxHeartbeats 1000000 in
set_option maxRecDepth 100000 in
theorem code_ctrl (c m : Int) (a1 a2 : Option Addr) (n1 c1 n2 c2 : Nat) (s : ByteArray) (w : World) (h : 1 ≤ c ∧ c ≤ 31 ∧ c ≠ 24 ∧ c ≠ 27) : Calls Tryd.prog 60 #[.agg #[.int .i64 2, .int .u8 c, .int .u8 m, .slice a1 n1 c1, .string s, .slice a2 n2 c2]] w fun e w' => e = .returned (.bool true) ∧ Gr w w' := by
  obtain ⟨h1, h2, h3, h4⟩ := h
  have q3 : (c != 24) = true := by simpa using h3
  have q4 : (c != 27) = true := by simpa using h4
  go_enter Tryd.func60, Tryd.ntmps60
  go_wp2_with (go_at_call 63; refine (in_true c 1 31 _ h1 h2).mono ?_; rintro e w1 ⟨rfl, rfl⟩)
  go_ret
  exact ⟨rfl, by (repeat (first | with_reducible exact Gr.refl _ | with_reducible assumption | with_reducible refine Gr.setCell ?_ (by simp; try omega) _ | with_reducible refine Gr.alloc ?_ _ | with_reducible refine Gr.drew ?_ | with_reducible refine Gr.drewN ?_ _ | with_reducible refine Gr.trans ?_ (by assumption)))⟩
set_option maxHeartbeats 1000000 in
set_option maxRecDepth 100000 in
theorem code_long (k c m : Int) (hk : k = 4 ∨ k = 5) (a1 a2 : Option Addr) (n1 c1 n2 c2 : Nat) (s : ByteArray) (w : World) (h : 64 ≤ c ∧ c ≤ 126) : Calls Tryd.prog 60 #[.agg #[.int .i64 k, .int .u8 c, .int .u8 m, .slice a1 n1 c1, .string s, .slice a2 n2 c2]] w fun e w' => e = .returned (.bool true) ∧ Gr w w' := by
  obtain ⟨h1, h2⟩ := h
  rcases hk with rfl | rfl
  all_goals
    go_enter Tryd.func60, Tryd.ntmps60
    go_wp2_with (go_at_call 63; refine (in_true c 64 126 _ h1 h2).mono ?_; rintro e w1 ⟨rfl, rfl⟩)
    go_ret
    exact ⟨rfl, by (repeat (first | with_reducible exact Gr.refl _ | with_reducible assumption | with_reducible refine Gr.setCell ?_ (by simp; try omega) _ | with_reducible refine Gr.alloc ?_ _ | with_reducible refine Gr.drew ?_ | with_reducible refine Gr.drewN ?_ _ | with_reducible refine Gr.trans ?_ (by assumption)))⟩
set_option maxHeartbeats 1000000 in
set_option maxRecDepth 100000 in
theorem code_str (k m : Int) (hk : 6 ≤ k ∧ k ≤ 9) (a1 a2 : Option Addr) (n1 c1 n2 c2 : Nat) (s : ByteArray) (w : World) : Calls Tryd.prog 60 #[.agg #[.int .i64 k, .int .u8 0, .int .u8 m, .slice a1 n1 c1, .string s, .slice a2 n2 c2]] w fun e w' => e = .returned (.bool true) ∧ Gr w w' := by
  rcases (by omega : k = 6 ∨ k = 7 ∨ k = 8 ∨ k = 9) with rfl | rfl | rfl | rfl
  all_goals
    clear hk
    go_enter Tryd.func60, Tryd.ntmps60
    go_wp2_with fail
    go_ret
    exact ⟨rfl, by (repeat (first | with_reducible exact Gr.refl _ | with_reducible assumption | with_reducible refine Gr.setCell ?_ (by simp; try omega) _ | with_reducible refine Gr.alloc ?_ _ | with_reducible refine Gr.drew ?_ | with_reducible refine Gr.drewN ?_ _ | with_reducible refine Gr.trans ?_ (by assumption)))⟩
set_option maxHeartbeats 1000000 in
set_option maxRecDepth 100000 in
theorem code_esc_some (c m : Int) (a1 a2 : Option Addr) (n1 c1 n2 c2 : Nat) (s : ByteArray) (hs : s ≠ ⟨#[]⟩) (w : World) (h : 48 ≤ c ∧ c ≤ 126) : Calls Tryd.prog 60 #[.agg #[.int .i64 3, .int .u8 c, .int .u8 m, .slice a1 n1 c1, .string s, .slice a2 n2 c2]] w fun e w' => e = .returned (.bool true) ∧ Gr w w' := by
  obtain ⟨h1, h2⟩ := h
  have q1 : s.toList.isEmpty = false := by
    rw [Bool.eq_false_iff]; intro e
    apply hs
    have : s.toList = [] := by simpa using e
    exact (bytes_inj s ⟨#[]⟩).1 (by rw [this, ByteArray.toList_eq])
  have q2 : ¬ s.toList = [] := by simpa using q1
  go_enter Tryd.func60, Tryd.ntmps60
  go_wp2_with fail
  go_loop [4] (fun t => t = .int .i64 4) (fun _ => 0)
  case atStart => rfl
  case round =>
    subst hrel
    go_wp2_with (go_at_call 63; refine (in_true c 48 126 _ h1 h2).mono ?_; rintro e w1 ⟨rfl, rfl⟩)
    go_ret
    exact ⟨rfl, by (repeat (first | with_reducible exact Gr.refl _ | with_reducible assumption | with_reducible refine Gr.setCell ?_ (by simp; try omega) _ | with_reducible refine Gr.alloc ?_ _ | with_reducible refine Gr.drew ?_ | with_reducible refine Gr.drewN ?_ _ | with_reducible refine Gr.trans ?_ (by assumption)))⟩
set_option maxHeartbeats 1000000 in
set_option maxRecDepth 100000 in
theorem code_esc_none (c m : Int) (a1 a2 : Option Addr) (n1 c1 n2 c2 : Nat) (w : World) (h : 48 ≤ c ∧ c ≤ 126) (ho : opKind c = 0) (h92 : c ≠ 92) : Calls Tryd.prog 60 #[.agg #[.int .i64 3, .int .u8 c, .int .u8 m, .slice a1 n1 c1, .string ⟨#[]⟩, .slice a2 n2 c2]] w fun e w' => e = .returned (.bool true) ∧ Gr w w' := by
  obtain ⟨h1, h2⟩ := h
  have q92 : (c == 92) = false := by simpa using h92
  go_enter Tryd.func60, Tryd.ntmps60
  have HO := Lib.hid ho
  clear ho h92
  go_wp2_with fail
  go_loop [4] (fun t => ∃ k : Nat, 4 ≤ k ∧ k ≤ 10 ∧ t = .int .i64 k) (fun t => 10 - (intOf t).toNat)
  case atStart => exact ⟨4, by omega, by omega, rfl⟩
  case round =>
    obtain ⟨k, k4, k10, rfl⟩ := hrel
    by_cases k9 : k ≤ 9
    · have hb : beginsR k ≠ c := fun e => by
        have := (begins_op k k4 k9 c).1 e
        rw [HO.out] at this; omega
      obtain ⟨b, hbd⟩ : ∃ b, b = beginsR k := ⟨_, rfl⟩
      have hcon := opens_any k (w.alloc (.cells #[.int .i64 3, .int .u8 c, .int .u8 m, .slice a1 n1 c1, .string ⟨#[]⟩, .slice a2 n2 c2] 50))
      rw [← hbd] at hb hcon
      have qb : (c == b) = false := by simpa using fun e => hb e.symm
      clear hbd hb
      go_wp2_with (go_at_call 48; refine hcon.mono ?_; rintro e w1 ⟨rfl, rfl⟩)
      go_round
      case rel => exact ⟨k + 1, by omega, by omega, by go_num⟩
      case measure => simp [intOf]; omega
    · have : k = 10 := by omega
      subst this
      go_wp2_with (go_at_call 63; refine (in_true c 48 126 _ h1 h2).mono ?_; rintro e w1 ⟨rfl, rfl⟩)
      go_ret
      exact ⟨rfl, by (repeat (first | with_reducible exact Gr.refl _ | with_reducible assumption | with_reducible refine Gr.setCell ?_ (by simp; try omega) _ | with_reducible refine Gr.alloc ?_ _ | with_reducible refine Gr.drew ?_ | with_reducible refine Gr.drewN ?_ _ | with_reducible refine Gr.trans ?_ (by assumption)))⟩
end Go.Proofs.YtjfffkaifcajbaaDoor
