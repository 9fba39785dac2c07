/-
  Every token that the machine says can be: the plain law.
  A token's small questions, walked.
  A token that can be is one: token.Check, walked.
-/
import Derived.Laws.RangeAny
import Derived.Laws.RangeString
import Derived.Test.YtnnhaenmoifplaaDoorZPdI
import Derived.Test.YtnnhaenmoifplaaDoorZPdC
namespace Go.Proofs.YtnnhaenmoifplaaDoor
set_option linter.unusedSimpArgs false
set_option linter.unusedVariables false

def IntsOk (l : List Int) : Prop := l.length ≤ 3 ∧ ∀ c ∈ l, 32 ≤ c ∧ c ≤ 47
def MarkOk (m : Int) : Prop := m = 0 ∨ 60 ≤ m ∧ m ≤ 63
def NumsL (l : List Int) : Prop := l.length ≤ 30 ∧ ∀ x ∈ l, 0 ≤ x ∧ x ≤ 65535
def DatOk (l : List Int) : Prop := l.length ≤ 4096 ∧ ∀ c ∈ l, dataOk c = true
/-- A token that can be. -/
inductive Can : Tok → Prop
  | print (c : Int) (h : (32 ≤ c ∧ c ≤ 126) ∨ (160 ≤ c ∧ c < 256)) : Can ⟨1, c, 0, [], [], []⟩
  | ctrl (c : Int) (h : 1 ≤ c ∧ c ≤ 31 ∧ c ≠ 24 ∧ c ≠ 27) : Can ⟨2, c, 0, [], [], []⟩
  | esc (c : Int) (l : List Int) (hc : 48 ≤ c ∧ c ≤ 126) (hl : IntsOk l) (h : l = [] → opKind c = 0 ∧ c ≠ 92) : Can ⟨3, c, 0, [], l, []⟩
  | csi (c m : Int) (ps l : List Int) (hc : 64 ≤ c ∧ c ≤ 126) (hm : MarkOk m) (hp : NumsL ps) (hl : IntsOk l) : Can ⟨4, c, m, ps, l, []⟩
  | dcs (c m : Int) (ps l d : List Int) (hc : 64 ≤ c ∧ c ≤ 126) (hm : MarkOk m) (hp : NumsL ps) (hl : IntsOk l) (hd : DatOk d) : Can ⟨5, c, m, ps, l, d⟩
  | str (k : Int) (d : List Int) (hk : 6 ≤ k ∧ k ≤ 9) (hd : DatOk d) : Can ⟨k, 0, 0, [], [], d⟩

theorem intsOk_nil : IntsOk [] := ⟨by simp, by simp⟩
end Go.Proofs.YtnnhaenmoifplaaDoor

namespace Go.Proofs.YtnnhaenmoifplaaDoor
set_option linter.unusedSimpArgs false
set_option linter.unusedVariables false
open Go.RowKit

theorem in_true (c a b : Int) (w : World) (h1 : a ≤ c) (h2 : c ≤ b) : Calls Tryd.prog 60 #[.int .u8 c, .int .u8 a, .int .u8 b] w fun e w' => e = .returned (.bool true) ∧ w = w' := by
  go_enter Tryd.func60, Tryd.ntmps60
  go_wp2
  go_ret
  exact ⟨rfl, rfl⟩
theorem in_false (c a b : Int) (w : World) (h : c < a ∨ b < c) : Calls Tryd.prog 60 #[.int .u8 c, .int .u8 a, .int .u8 b] w fun e w' => e = .returned (.bool false) ∧ w = w' := by
  by_cases h1 : c < a
  · clear h
    go_enter Tryd.func60, Tryd.ntmps60
    go_wp2
    go_ret
    exact ⟨rfl, rfl⟩
  · have h2 : b < c := h.resolve_left h1
    have h3 : a ≤ c := by omega
    have hd : decide (c ≤ b) = false := by simpa using h2
    clear h h1
    go_enter Tryd.func60, Tryd.ntmps60
    go_wp2
    go_ret
    exact ⟨rfl, rfl⟩
theorem shows_true (c : Int) (w : World) (h : (32 ≤ c ∧ c ≤ 126) ∨ 160 ≤ c) : Calls Tryd.prog 66 #[.int .u8 c] w fun e w' => e = .returned (.bool true) ∧ w = w' := by
  by_cases h1 : 32 ≤ c ∧ c ≤ 126
  · obtain ⟨h1, h2⟩ := h1
    clear h
    go_enter Tryd.func66, Tryd.ntmps66
    go_wp2_with (go_at_call 60; refine (in_true c 32 126 _ h1 h2).mono ?_; rintro e w' ⟨rfl, rfl⟩)
    go_ret
    exact ⟨rfl, rfl⟩
  · have h2 : 160 ≤ c := h.resolve_left h1
    clear h h1
    go_enter Tryd.func66, Tryd.ntmps66
    go_wp2_with (go_at_call 60; refine (in_false c 32 126 _ (by omega)).mono ?_; rintro e w' ⟨rfl, rfl⟩)
    go_ret
    exact ⟨rfl, rfl⟩
theorem shows_false (c : Int) (w : World) (h : c < 32) : Calls Tryd.prog 66 #[.int .u8 c] w fun e w' => e = .returned (.bool false) ∧ w = w' := by
  have h2 : decide (160 ≤ c) = false := by simp; omega
  go_enter Tryd.func66, Tryd.ntmps66
  go_wp2_with (go_at_call 60; refine (in_false c 32 126 _ (by omega)).mono ?_; rintro e w' ⟨rfl, rfl⟩)
  go_ret
  exact ⟨rfl, rfl⟩
theorem data_true (c : Int) (w : World) (h : dataOk c = true) : Calls Tryd.prog 59 #[.int .u8 c] w fun e w' => e = .returned (.bool true) ∧ w = w' := by
  simp only [dataOk, Bool.or_eq_true, Bool.and_eq_true, decide_eq_true_eq] at h
  by_cases h1 : c < 32
  · have h2 : 8 ≤ c ∧ c ≤ 13 := by omega
    obtain ⟨h2, h3⟩ := h2
    clear h
    go_enter Tryd.func59, Tryd.ntmps59
    go_wp2_with (first
      | (go_at_call 66; refine (shows_false c _ h1).mono ?_; rintro e w' ⟨rfl, rfl⟩)
      | (go_at_call 60; refine (in_true c 8 13 _ h2 h3).mono ?_; rintro e w' ⟨rfl, rfl⟩))
    go_ret
    exact ⟨rfl, rfl⟩
  · have h2 : (32 ≤ c ∧ c ≤ 126) ∨ 160 ≤ c := by omega
    have H := Lib.hid h2
    clear h h2
    go_enter Tryd.func59, Tryd.ntmps59
    go_wp2_with (go_at_call 66; refine (shows_true c _ H.out).mono ?_; rintro e w' ⟨rfl, rfl⟩)
    go_ret
    exact ⟨rfl, rfl⟩
theorem inter_true (c : Int) (w : World) (h1 : 32 ≤ c) (h2 : c ≤ 47) : Calls Tryd.prog 58 #[.int .i32 c] w fun e w' => e = .returned (.bool true) ∧ w = w' := by
  go_enter Tryd.func58, Tryd.ntmps58
  go_wp2
  go_ret
  exact ⟨rfl, rfl⟩
theorem opens_any (k : Int) (w : World) : Calls Tryd.prog 50 #[.int .i64 k] w fun e w' => e = .returned (.int .u8 (beginsR k)) ∧ w = w' := by
  go_enter Tryd.func50, Tryd.ntmps50
  go_wp2
  all_goals (go_ret; refine ⟨?_, rfl⟩; simp_all [beginsR])
theorem clip_in (x : Int) (w : World) (h1 : 0 ≤ x) (h2 : x ≤ 65535) : Calls Tryd.prog 47 #[.int .i64 x, .int .i64 0, .int .i64 65535] w fun e w' => e = .returned (.int .i64 x) ∧ w = w' := by
  go_enter Tryd.func47, Tryd.ntmps47
  go_wp2
  all_goals (go_ret; refine ⟨?_, rfl⟩; first | rfl | ((obtain rfl : x = 0 := by omega); rfl))
theorem wide_false (x : Int) (w : World) (h1 : 0 ≤ x) (h2 : x ≤ 65535) : Calls Tryd.prog 64 #[.int .i64 x] w fun e w' => e = .returned (.bool false) ∧ w = w' := by
  go_enter Tryd.func64, Tryd.ntmps64
  go_wp2_with (go_at_call 47; refine (clip_in x _ h1 h2).mono ?_; rintro e w' ⟨rfl, rfl⟩)
  go_ret
  exact ⟨rfl, rfl⟩
set_option maxRecDepth 100000 in
set_option maxHeartbeats 1000000 in
theorem index_none {w : World} {v : Value} {l : List Int} (h : HasRow w 3 v l.length (icells l)) (hl : NumsL l) :
    Calls Tryd.prog 71 #[v, .func (.func 64) #[] #[]] w fun e w' => e = .returned (.int .i64 (-1)) ∧ w = w' := by
  obtain ⟨h30, hr⟩ := hl
  obtain ⟨a1, c1, rfl⟩ := h.form
  have HR := Lib.hid hr
  clear hr
  go_enter Tryd.func71, Tryd.ntmps71
  go_wp2_with fail
  go_loop [8] (fun i => ∃ k : Nat, k ≤ l.length ∧ i = .int .i64 k) (fun i => l.length - (intOf i).toNat)
  case atStart => exact ⟨0, Nat.zero_le _, rfl⟩
  case round =>
    obtain ⟨k, hk, rfl⟩ := hrel
    by_cases hlt : k < l.length
    · obtain ⟨g1, p1, u1, hv1, hu1, hc1⟩ := h.at_ hlt
      injection hv1 with e1 e2 e3
      subst e1
      have hu := icells_at hu1
      subst hu
      have hx := HR.out (l.getD k 0) (by rw [List.getD, List.getElem?_eq_getElem hlt]; exact List.getElem_mem hlt)
      obtain ⟨x, hxd⟩ : ∃ x, x = l.getD k 0 := ⟨_, rfl⟩
      rw [← hxd] at hc1 hx
      obtain ⟨hx1, hx2⟩ := hx
      have hkn : (k : Int) < (l.length : Int) := by omega
      have k0 : (0 : Int) ≤ (k : Int) := by omega
      clear hxd h hu1 e2 e3
      go_wp2_with (go_at_call 64; refine (wide_false x _ hx1 hx2).mono ?_; rintro e w' ⟨rfl, rfl⟩)
      go_round
      case rel => exact ⟨k + 1, by omega, by go_num⟩
      case measure => simp [intOf]; omega
    · have hkn : ¬ (k : Int) < (l.length : Int) := by omega
      clear h
      go_wp2_with fail
      go_ret
      exact ⟨rfl, rfl⟩
theorem contains_none {w : World} {v : Value} {l : List Int} (h : HasRow w 3 v l.length (icells l)) (hl : NumsL l) :
    Calls Tryd.prog 65 #[v, .func (.func 64) #[] #[]] w fun e w' => e = .returned (.bool false) ∧ w = w' := by
  have hi := index_none h hl
  clear h hl
  go_enter Tryd.func65, Tryd.ntmps65
  go_wp2_with (go_at_call 71; refine hi.mono ?_; rintro e w' ⟨rfl, rfl⟩)
  go_ret
  exact ⟨rfl, rfl⟩
end Go.Proofs.YtnnhaenmoifplaaDoor

namespace Go.Proofs.YtnnhaenmoifplaaDoor
set_option linter.unusedSimpArgs false
set_option linter.unusedVariables false
open Go.RowKit

theorem strOf_nil : strOf [] = ⟨#[]⟩ := rfl
theorem strOf_ne {l : List Int} (h : l ≠ []) : strOf l ≠ ⟨#[]⟩ := by
  intro e
  have := congrArg ByteArray.size e
  rw [show (strOf l).size = l.length from (by show (strOf l).data.size = l.length; simp [strOf])] at this
  have h2 : (⟨#[]⟩ : ByteArray).size = 0 := rfl
  rw [h2] at this
  exact h (List.eq_nil_of_length_eq_zero this)
set_option maxHeartbeats 1000000 in
set_option maxRecDepth 100000 in
theorem bare_true (k c : Int) (a a2 : Option Addr) (c1 c2 : Nat) (w : World) : Calls Tryd.prog 61 #[.agg #[.int .i64 k, .int .u8 c, .int .u8 0, .slice a 0 c1, .string ⟨#[]⟩, .slice a2 0 c2]] w fun e w' => e = .returned (.bool true) ∧ Gr w w' := by
  go_enter Tryd.func61, Tryd.ntmps61
  go_wp2
  go_ret
  exact ⟨rfl, by (repeat (first | with_reducible exact Gr.refl _ | with_reducible assumption | with_reducible refine Gr.setCell ?_ (by simp; try omega) _ | with_reducible refine Gr.alloc ?_ _ | with_reducible refine Gr.drew ?_ | with_reducible refine Gr.drewN ?_ _ | with_reducible refine Gr.trans ?_ (by assumption)))⟩
set_option maxHeartbeats 1000000 in
set_option maxRecDepth 100000 in
theorem great_false {w : World} {k c m : Int} {ps l d : List Int} {qp qd : Value} (hp : NumsL ps) (hl : IntsOk l) (hd : d.length ≤ 4096) (h1 : HasRow w 3 qp ps.length (icells ps)) (h2 : HasRow w 5 qd d.length (bcells d)) :
    Calls Tryd.prog 56 #[.agg #[.int .i64 k, .int .u8 c, .int .u8 m, qp, .string (strOf l), qd]] w fun e w' => e = .returned (.bool false) ∧ Gr w w' := by
  obtain ⟨a1, c1, rfl⟩ := h1.form
  obtain ⟨a2, c2, rfl⟩ := h2.form
  have hs : (strOf l).size = l.length := by
    show (strOf l).data.size = l.length
    simp [strOf]
  have hl3 := hl.1
  have hp30 := hp.1
  have hg := (Gr.refl w).alloc (.cells #[.int .i64 k, .int .u8 c, .int .u8 m, .slice a1 ps.length c1, .string (strOf l), .slice a2 d.length c2] 34)
  have hc := contains_none (h1.gr hg) hp
  obtain ⟨s, hsd⟩ : ∃ s, s = strOf l := ⟨_, rfl⟩
  rw [← hsd] at hs hc hg ⊢
  have hs3 : s.size ≤ 3 := by omega
  have q1 : decide (3 < (s.size : Int)) = false := by simp; omega
  have q2 : decide (30 < (ps.length : Int)) = false := by simp; omega
  have q3 : decide (4096 < (d.length : Int)) = false := by simp; omega
  clear hs hsd h1 h2 hp hl hl3
  go_enter Tryd.func56, Tryd.ntmps56
  go_wp2_with (go_at_call 65; refine hc.mono ?_; rintro e w1 ⟨rfl, rfl⟩)
  go_ret
  exact ⟨rfl, hg⟩

set_option maxHeartbeats 1000000 in
set_option maxRecDepth 100000 in
theorem code_print (c m : Int) (a1 a2 : Option Addr) (n1 c1 n2 c2 : Nat) (s : ByteArray) (w : World) (h : (32 ≤ c ∧ c ≤ 126) ∨ 160 ≤ c) : Calls Tryd.prog 57 #[.agg #[.int .i64 1, .int .u8 c, .int .u8 m, .slice a1 n1 c1, .string s, .slice a2 n2 c2]] w fun e w' => e = .returned (.bool true) ∧ Gr w w' := by
  have H := Lib.hid h
  clear h
  go_enter Tryd.func57, Tryd.ntmps57
  go_wp2_with (go_at_call 66; refine (shows_true c _ H.out).mono ?_; rintro e w1 ⟨rfl, rfl⟩)
  go_ret
  exact ⟨rfl, by (repeat (first | with_reducible exact Gr.refl _ | with_reducible assumption | with_reducible refine Gr.setCell ?_ (by simp; try omega) _ | with_reducible refine Gr.alloc ?_ _ | with_reducible refine Gr.drew ?_ | with_reducible refine Gr.drewN ?_ _ | with_reducible refine Gr.trans ?_ (by assumption)))⟩
set_option maxHeartbeats 1000000 in
set_option maxRecDepth 100000 in
theorem code_ctrl (c m : Int) (a1 a2 : Option Addr) (n1 c1 n2 c2 : Nat) (s : ByteArray) (w : World) (h : 1 ≤ c ∧ c ≤ 31 ∧ c ≠ 24 ∧ c ≠ 27) : Calls Tryd.prog 57 #[.agg #[.int .i64 2, .int .u8 c, .int .u8 m, .slice a1 n1 c1, .string s, .slice a2 n2 c2]] w fun e w' => e = .returned (.bool true) ∧ Gr w w' := by
  obtain ⟨h1, h2, h3, h4⟩ := h
  have q3 : (c != 24) = true := by simpa using h3
  have q4 : (c != 27) = true := by simpa using h4
  go_enter Tryd.func57, Tryd.ntmps57
  go_wp2_with (go_at_call 60; refine (in_true c 1 31 _ h1 h2).mono ?_; rintro e w1 ⟨rfl, rfl⟩)
  go_ret
  exact ⟨rfl, by (repeat (first | with_reducible exact Gr.refl _ | with_reducible assumption | with_reducible refine Gr.setCell ?_ (by simp; try omega) _ | with_reducible refine Gr.alloc ?_ _ | with_reducible refine Gr.drew ?_ | with_reducible refine Gr.drewN ?_ _ | with_reducible refine Gr.trans ?_ (by assumption)))⟩
set_option maxHeartbeats 1000000 in
set_option maxRecDepth 100000 in
theorem code_long (k c m : Int) (hk : k = 4 ∨ k = 5) (a1 a2 : Option Addr) (n1 c1 n2 c2 : Nat) (s : ByteArray) (w : World) (h : 64 ≤ c ∧ c ≤ 126) : Calls Tryd.prog 57 #[.agg #[.int .i64 k, .int .u8 c, .int .u8 m, .slice a1 n1 c1, .string s, .slice a2 n2 c2]] w fun e w' => e = .returned (.bool true) ∧ Gr w w' := by
  obtain ⟨h1, h2⟩ := h
  rcases hk with rfl | rfl
  all_goals
    go_enter Tryd.func57, Tryd.ntmps57
    go_wp2_with (go_at_call 60; refine (in_true c 64 126 _ h1 h2).mono ?_; rintro e w1 ⟨rfl, rfl⟩)
    go_ret
    exact ⟨rfl, by (repeat (first | with_reducible exact Gr.refl _ | with_reducible assumption | with_reducible refine Gr.setCell ?_ (by simp; try omega) _ | with_reducible refine Gr.alloc ?_ _ | with_reducible refine Gr.drew ?_ | with_reducible refine Gr.drewN ?_ _ | with_reducible refine Gr.trans ?_ (by assumption)))⟩
set_option maxHeartbeats 1000000 in
set_option maxRecDepth 100000 in
theorem code_str (k m : Int) (hk : 6 ≤ k ∧ k ≤ 9) (a1 a2 : Option Addr) (n1 c1 n2 c2 : Nat) (s : ByteArray) (w : World) : Calls Tryd.prog 57 #[.agg #[.int .i64 k, .int .u8 0, .int .u8 m, .slice a1 n1 c1, .string s, .slice a2 n2 c2]] w fun e w' => e = .returned (.bool true) ∧ Gr w w' := by
  rcases (by omega : k = 6 ∨ k = 7 ∨ k = 8 ∨ k = 9) with rfl | rfl | rfl | rfl
  all_goals
    clear hk
    go_enter Tryd.func57, Tryd.ntmps57
    go_wp2_with fail
    go_ret
    exact ⟨rfl, by (repeat (first | with_reducible exact Gr.refl _ | with_reducible assumption | with_reducible refine Gr.setCell ?_ (by simp; try omega) _ | with_reducible refine Gr.alloc ?_ _ | with_reducible refine Gr.drew ?_ | with_reducible refine Gr.drewN ?_ _ | with_reducible refine Gr.trans ?_ (by assumption)))⟩
set_option maxHeartbeats 1000000 in
set_option maxRecDepth 100000 in
theorem code_esc_some (c m : Int) (a1 a2 : Option Addr) (n1 c1 n2 c2 : Nat) (s : ByteArray) (hs : s ≠ ⟨#[]⟩) (w : World) (h : 48 ≤ c ∧ c ≤ 126) : Calls Tryd.prog 57 #[.agg #[.int .i64 3, .int .u8 c, .int .u8 m, .slice a1 n1 c1, .string s, .slice a2 n2 c2]] w fun e w' => e = .returned (.bool true) ∧ Gr w w' := by
  obtain ⟨h1, h2⟩ := h
  have q1 : s.toList.isEmpty = false := by
    rw [Bool.eq_false_iff]; intro e
    apply hs
    have : s.toList = [] := by simpa using e
    exact (bytes_inj s ⟨#[]⟩).1 (by rw [this, ByteArray.toList_eq])
  have q2 : ¬ s.toList = [] := by simpa using q1
  go_enter Tryd.func57, Tryd.ntmps57
  go_wp2_with fail
  go_loop [4] (fun t => t = .int .i64 4) (fun _ => 0)
  case atStart => rfl
  case round =>
    subst hrel
    go_wp2_with (go_at_call 60; refine (in_true c 48 126 _ h1 h2).mono ?_; rintro e w1 ⟨rfl, rfl⟩)
    go_ret
    exact ⟨rfl, by (repeat (first | with_reducible exact Gr.refl _ | with_reducible assumption | with_reducible refine Gr.setCell ?_ (by simp; try omega) _ | with_reducible refine Gr.alloc ?_ _ | with_reducible refine Gr.drew ?_ | with_reducible refine Gr.drewN ?_ _ | with_reducible refine Gr.trans ?_ (by assumption)))⟩
set_option maxHeartbeats 1000000 in
set_option maxRecDepth 100000 in
theorem code_esc_none (c m : Int) (a1 a2 : Option Addr) (n1 c1 n2 c2 : Nat) (w : World) (h : 48 ≤ c ∧ c ≤ 126) (ho : opKind c = 0) (h92 : c ≠ 92) : Calls Tryd.prog 57 #[.agg #[.int .i64 3, .int .u8 c, .int .u8 m, .slice a1 n1 c1, .string ⟨#[]⟩, .slice a2 n2 c2]] w fun e w' => e = .returned (.bool true) ∧ Gr w w' := by
  obtain ⟨h1, h2⟩ := h
  have q92 : (c == 92) = false := by simpa using h92
  go_enter Tryd.func57, Tryd.ntmps57
  have HO := Lib.hid ho
  clear ho h92
  go_wp2_with fail
  go_loop [4] (fun t => ∃ k : Nat, 4 ≤ k ∧ k ≤ 10 ∧ t = .int .i64 k) (fun t => 10 - (intOf t).toNat)
  case atStart => exact ⟨4, by omega, by omega, rfl⟩
  case round =>
    obtain ⟨k, k4, k10, rfl⟩ := hrel
    by_cases k9 : k ≤ 9
    · have hb : beginsR k ≠ c := fun e => by
        have := (begins_op k k4 k9 c).1 e
        rw [HO.out] at this; omega
      obtain ⟨b, hbd⟩ : ∃ b, b = beginsR k := ⟨_, rfl⟩
      have hcon := opens_any k (w.alloc (.cells #[.int .i64 3, .int .u8 c, .int .u8 m, .slice a1 n1 c1, .string ⟨#[]⟩, .slice a2 n2 c2] 34))
      rw [← hbd] at hb hcon
      have qb : (c == b) = false := by simpa using fun e => hb e.symm
      clear hbd hb
      go_wp2_with (go_at_call 50; refine hcon.mono ?_; rintro e w1 ⟨rfl, rfl⟩)
      go_round
      case rel => exact ⟨k + 1, by omega, by omega, by go_num⟩
      case measure => simp [intOf]; omega
    · have : k = 10 := by omega
      subst this
      go_wp2_with (go_at_call 60; refine (in_true c 48 126 _ h1 h2).mono ?_; rintro e w1 ⟨rfl, rfl⟩)
      go_ret
      exact ⟨rfl, by (repeat (first | with_reducible exact Gr.refl _ | with_reducible assumption | with_reducible refine Gr.setCell ?_ (by simp; try omega) _ | with_reducible refine Gr.alloc ?_ _ | with_reducible refine Gr.drew ?_ | with_reducible refine Gr.drewN ?_ _ | with_reducible refine Gr.trans ?_ (by assumption)))⟩
end Go.Proofs.YtnnhaenmoifplaaDoor
