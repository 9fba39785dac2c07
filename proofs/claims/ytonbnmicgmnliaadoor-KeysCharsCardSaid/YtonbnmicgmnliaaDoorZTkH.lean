/-
  A token that can't be: the small questions, walked.
-/
import Derived.Test.YtonbnmicgmnliaaDoorZTkG
namespace Go.Proofs.YtonbnmicgmnliaaDoor
set_option linter.unusedSimpArgs false
set_option linter.unusedVariables false
open Go.RowKit
set_option linter.unusedVariables false

def inB (c a b : Int) : Bool := decide (a ≤ c ∧ c ≤ b)
theorem in_any (c a b : Int) (w : World) : Calls Tryd.prog 74 #[.int .u8 c, .int .u8 a, .int .u8 b] w fun e w' => e = .returned (.bool (inB c a b)) ∧ w = w' := by
  by_cases h : a ≤ c ∧ c ≤ b
  · rw [show inB c a b = true from decide_eq_true h]; exact in_true c a b w h.1 h.2
  · rw [show inB c a b = false from decide_eq_false h]; exact in_false c a b w (by omega)
def showsB (c : Int) : Bool := decide ((32 ≤ c ∧ c ≤ 126) ∨ 160 ≤ c)
theorem shows_any (c : Int) (w : World) : Calls Tryd.prog 81 #[.int .u8 c] w fun e w' => e = .returned (.bool (showsB c)) ∧ w = w' := by
  by_cases h : (32 ≤ c ∧ c ≤ 126) ∨ 160 ≤ c
  · rw [show showsB c = true from decide_eq_true h]; exact shows_true c w h
  · rw [show showsB c = false from decide_eq_false h]
    have h1 : c < 32 ∨ 126 < c := by omega
    have h2 : decide (160 ≤ c) = false := by simp; omega
    have H1 := Lib.hid h1
    clear h h1
    go_enter Tryd.func81, Tryd.ntmps81
    go_wp2_with (go_at_call 74; refine (in_false c 32 126 _ H1.out).mono ?_; rintro e w' ⟨rfl, rfl⟩)
    go_ret
    exact ⟨rfl, rfl⟩
theorem data_any (c : Int) (w : World) : Calls Tryd.prog 73 #[.int .u8 c] w fun e w' => e = .returned (.bool (dataOk c)) ∧ w = w' := by
  cases h : dataOk c with
  | true => exact data_true c w h
  | false =>
    have hf : ¬ ((8 ≤ c ∧ c ≤ 13) ∨ (32 ≤ c ∧ c ≤ 126) ∨ 160 ≤ c) := by
      intro hx
      have : dataOk c = true := by simp [dataOk]; omega
      rw [this] at h; cases h
    have hs := shows_any c
    rw [show showsB c = false from decide_eq_false (by omega)] at hs
    have h1 : c < 8 ∨ 13 < c := by omega
    have H1 := Lib.hid h1
    clear h hf h1
    go_enter Tryd.func73, Tryd.ntmps73
    go_wp2_with (first
      | (go_at_call 81; refine (hs _).mono ?_; rintro e w' ⟨rfl, rfl⟩)
      | (go_at_call 74; refine (in_false c 8 13 _ H1.out).mono ?_; rintro e w' ⟨rfl, rfl⟩))
    go_ret
    exact ⟨rfl, rfl⟩
def interB (c : Int) : Bool := decide (32 ≤ c ∧ c ≤ 47)
theorem inter_any (c : Int) (w : World) : Calls Tryd.prog 72 #[.int .i32 c] w fun e w' => e = .returned (.bool (interB c)) ∧ w = w' := by
  by_cases h : 32 ≤ c ∧ c ≤ 47
  · rw [show interB c = true from decide_eq_true h]; exact inter_true c w h.1 h.2
  · rw [show interB c = false from decide_eq_false h]
    rcases (by omega : c < 32 ∨ (32 ≤ c ∧ 47 < c)) with h1 | ⟨h1, h2⟩
    · clear h
      go_enter Tryd.func72, Tryd.ntmps72
      go_wp2_with fail
      go_ret
      exact ⟨rfl, rfl⟩
    · have h3 : decide (c ≤ 47) = false := by simp; omega
      clear h
      go_enter Tryd.func72, Tryd.ntmps72
      go_wp2_with fail
      go_ret
      exact ⟨rfl, rfl⟩
theorem wide_true (x : Int) (w : World) (h : ¬ (0 ≤ x ∧ x ≤ 65535)) : Calls Tryd.prog 79 #[.int .i64 x] w fun e w' => e = .returned (.bool true) ∧ w = w' := by
  have hc : clipR x ≠ x := by have := clipR_in x; intro e; rw [e] at this; exact h this
  obtain ⟨y, hy⟩ : ∃ y, y = clipR x := ⟨_, rfl⟩
  have hcl := clip_any x
  rw [← hy] at hcl hc
  have hq : (x != y) = true := by simpa using fun e => hc e.symm
  clear h hc hy
  go_enter Tryd.func79, Tryd.ntmps79
  go_wp2_with (go_at_call 54; refine (hcl _).mono ?_; rintro e w' ⟨rfl, rfl⟩)
  go_ret
  exact ⟨rfl, rfl⟩
def SomeIdx (w : World) (e : Ending) (w' : World) : Prop := ∃ k : Nat, k < 1000 ∧ e = .returned (.int .i64 k) ∧ w = w'
set_option maxRecDepth 100000 in
set_option maxHeartbeats 1000000 in
theorem index_some {w : World} {v : Value} {l : List Int} (h : HasRow w 3 v l.length (icells l)) (h30 : l.length ≤ 30) (hl : ∃ x ∈ l, ¬ (0 ≤ x ∧ x ≤ 65535)) :
    Calls Tryd.prog 83 #[v, .func (.func 79) #[] #[]] w (SomeIdx w) := by
  obtain ⟨a1, c1, rfl⟩ := h.form
  have HB := Lib.hid hl
  clear hl
  go_enter Tryd.func83, Tryd.ntmps83
  go_wp2_with fail
  go_loop [8] (fun i => ∃ k : Nat, k ≤ l.length ∧ i = .int .i64 k ∧ ∀ x ∈ l.take k, 0 ≤ x ∧ x ≤ 65535) (fun i => l.length - (intOf i).toNat)
  case atStart => exact ⟨0, Nat.zero_le _, rfl, by simp⟩
  case round =>
    obtain ⟨k, hk, rfl, hall⟩ := hrel
    by_cases hlt : k < l.length
    · obtain ⟨g1, p1, u1, hv1, hu1, hc1⟩ := h.at_ hlt
      injection hv1 with e1 e2 e3
      subst e1
      have hu := icells_at hu1
      subst hu
      obtain ⟨x, hxd⟩ : ∃ x, x = l.getD k 0 := ⟨_, rfl⟩
      have hxk : l[k]? = some x := by rw [hxd, List.getD, List.getElem?_eq_getElem hlt]; simp
      rw [← hxd] at hc1
      have hkn : (k : Int) < (l.length : Int) := by omega
      have k0 : (0 : Int) ≤ (k : Int) := by omega
      by_cases hx : 0 ≤ x ∧ x ≤ 65535
      · have HA := Lib.hid (show ∀ y ∈ l.take (k + 1), 0 ≤ y ∧ y ≤ 65535 by
          intro y hy
          rw [List.take_add_one, hxk] at hy
          rcases List.mem_append.1 hy with hy | hy
          · exact hall y hy
          · simp at hy; subst hy; exact hx)
        obtain ⟨hx1, hx2⟩ := hx
        clear hxd h hu1 e2 e3 hall hxk
        go_wp2_with (go_at_call 79; refine (wide_false x _ hx1 hx2).mono ?_; rintro e w' ⟨rfl, rfl⟩)
        go_round
        case rel => exact ⟨k + 1, by omega, by go_num, HA.out⟩
        case measure => simp [intOf]; omega
      · have hwt := wide_true x
        have HX := Lib.hid hx
        clear hxd h hu1 e2 e3 hall hxk hx
        go_wp2_with (go_at_call 79; refine (hwt _ HX.out).mono ?_; rintro e w' ⟨rfl, rfl⟩)
        go_ret
        exact ⟨k, by omega, rfl, rfl⟩
    · exfalso
      obtain ⟨x, hx, hn⟩ := HB.out
      rw [List.take_of_length_le (by omega)] at hall
      exact hn (hall x hx)
set_option maxHeartbeats 1000000 in
theorem contains_some {w : World} {v : Value} {l : List Int} (h : HasRow w 3 v l.length (icells l)) (h30 : l.length ≤ 30) (hl : ∃ x ∈ l, ¬ (0 ≤ x ∧ x ≤ 65535)) :
    Calls Tryd.prog 80 #[v, .func (.func 79) #[] #[]] w fun e w' => e = .returned (.bool true) ∧ w = w' := by
  have hi := index_some h h30 hl
  clear h hl
  go_enter Tryd.func80, Tryd.ntmps80
  go_wp2_with (go_at_call 83; refine hi.mono ?_; rintro e w' ⟨k, hk, rfl, rfl⟩; have hk0 : (0 : Int) ≤ (k : Int) := by omega)
  go_ret
  exact ⟨rfl, rfl⟩
def Great (ps l d : List Int) : Prop := 3 < l.length ∨ 30 < ps.length ∨ 4096 < d.length ∨ ∃ x ∈ ps, ¬ (0 ≤ x ∧ x ≤ 65535)
set_option maxHeartbeats 1000000 in
set_option maxRecDepth 100000 in
theorem great_true {w : World} {k c m : Int} {ps l d : List Int} {qp qd : Value} (hG : Great ps l d) (h1 : HasRow w 3 qp ps.length (icells ps)) (h2 : HasRow w 5 qd d.length (bcells d)) :
    Calls Tryd.prog 70 #[.agg #[.int .i64 k, .int .u8 c, .int .u8 m, qp, .string (strOf l), qd]] w fun e w' => e = .returned (.bool true) ∧ Gr w w' := by
  obtain ⟨a1, c1, rfl⟩ := h1.form
  obtain ⟨a2, c2, rfl⟩ := h2.form
  have hs := strOf_size' l
  have hg := (Gr.refl w).alloc (.cells #[.int .i64 k, .int .u8 c, .int .u8 m, .slice a1 ps.length c1, .string (strOf l), .slice a2 d.length c2] 88)
  have hc := fun h30 hb => contains_some (h1.gr hg) h30 hb
  obtain ⟨s, hsd⟩ : ∃ s, s = strOf l := ⟨_, rfl⟩
  rw [← hsd] at hs hc hg ⊢
  unfold Great at hG
  rw [← hs] at hG
  clear hs hsd h1 h2
  by_cases q1 : 3 < s.size
  · have q1' : decide (3 < (s.size : Int)) = true := by simp; omega
    clear hG hc
    go_enter Tryd.func70, Tryd.ntmps70
    go_wp2_with fail
    go_ret
    exact ⟨rfl, hg⟩
  · have q1' : decide (3 < (s.size : Int)) = false := by simp; omega
    by_cases q2 : 30 < ps.length
    · have q2' : decide (30 < (ps.length : Int)) = true := by simp; omega
      clear hG hc
      go_enter Tryd.func70, Tryd.ntmps70
      go_wp2_with fail
      go_ret
      exact ⟨rfl, hg⟩
    · have q2' : decide (30 < (ps.length : Int)) = false := by simp; omega
      by_cases q3 : 4096 < d.length
      · have q3' : decide (4096 < (d.length : Int)) = true := by simp; omega
        clear hG hc
        go_enter Tryd.func70, Tryd.ntmps70
        go_wp2_with fail
        go_ret
        exact ⟨rfl, hg⟩
      · have q3' : decide (4096 < (d.length : Int)) = false := by simp; omega
        have hc2 := hc (by omega) (by rcases hG with h | h | h | h <;> first | omega | exact h)
        clear hG hc
        go_enter Tryd.func70, Tryd.ntmps70
        go_wp2_with (go_at_call 80; refine hc2.mono ?_; rintro e w1 ⟨rfl, rfl⟩)
        go_ret
        exact ⟨rfl, hg⟩
end Go.Proofs.YtonbnmicgmnliaaDoor
