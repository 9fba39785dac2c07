/-
  Every token that the machine says can be: the plain law.
  A token's small questions, walked.
-/
import Derived.Laws.RangeAny
import Derived.Laws.RangeString
import Derived.Test.YtjfffkaifcajbaaDoorZPdI
namespace Go.Proofs.YtjfffkaifcajbaaDoor
set_option linter.unusedSimpArgs false
set_option linter.unusedVariables false

def IntsOk (l : List Int) : Prop := l.length ≤ 3 ∧ ∀ c ∈ l, 32 ≤ c ∧ c ≤ 47
def MarkOk (m : Int) : Prop := m = 0 ∨ 60 ≤ m ∧ m ≤ 63
def NumsL (l : List Int) : Prop := l.length ≤ 30 ∧ ∀ x ∈ l, 0 ≤ x ∧ x ≤ 65535
def DatOk (l : List Int) : Prop := l.length ≤ 4096 ∧ ∀ c ∈ l, dataOk c = true
/-- A token that can be. -/
inductive Can : Tok → Prop
  | print (c : Int) (h : (32 ≤ c ∧ c ≤ 126) ∨ (160 ≤ c ∧ c < 256)) : Can ⟨1, c, 0, [], [], []⟩
  | ctrl (c : Int) (h : 1 ≤ c ∧ c ≤ 31 ∧ c ≠ 24 ∧ c ≠ 27) : Can ⟨2, c, 0, [], [], []⟩
  | esc (c : Int) (l : List Int) (hc : 48 ≤ c ∧ c ≤ 126) (hl : IntsOk l) (h : l = [] → opKind c = 0 ∧ c ≠ 92) : Can ⟨3, c, 0, [], l, []⟩
  | csi (c m : Int) (ps l : List Int) (hc : 64 ≤ c ∧ c ≤ 126) (hm : MarkOk m) (hp : NumsL ps) (hl : IntsOk l) : Can ⟨4, c, m, ps, l, []⟩
  | dcs (c m : Int) (ps l d : List Int) (hc : 64 ≤ c ∧ c ≤ 126) (hm : MarkOk m) (hp : NumsL ps) (hl : IntsOk l) (hd : DatOk d) : Can ⟨5, c, m, ps, l, d⟩
  | str (k : Int) (d : List Int) (hk : 6 ≤ k ∧ k ≤ 9) (hd : DatOk d) : Can ⟨k, 0, 0, [], [], d⟩

theorem intsOk_nil : IntsOk [] := ⟨by simp, by simp⟩
end Go.Proofs.YtjfffkaifcajbaaDoor

namespace Go.Proofs.YtjfffkaifcajbaaDoor
set_option linter.unusedSimpArgs false
set_option linter.unusedVariables false
open Go.RowKit

theorem in_true (c a b : Int) (w : World) (h1 : a ≤ c) (h2 : c ≤ b) : Calls Tryd.prog 63 #[.int .u8 c, .int .u8 a, .int .u8 b] w fun e w' => e = .returned (.bool true) ∧ w = w' := by
  go_enter Tryd.func63, Tryd.ntmps63
  go_wp2
  go_ret
  exact ⟨rfl, rfl⟩
theorem in_false (c a b : Int) (w : World) (h : c < a ∨ b < c) : Calls Tryd.prog 63 #[.int .u8 c, .int .u8 a, .int .u8 b] w fun e w' => e = .returned (.bool false) ∧ w = w' := by
  by_cases h1 : c < a
  · clear h
    go_enter Tryd.func63, Tryd.ntmps63
    go_wp2
    go_ret
    exact ⟨rfl, rfl⟩
  · have h2 : b < c := h.resolve_left h1
    have h3 : a ≤ c := by omega
    have hd : decide (c ≤ b) = false := by simpa using h2
    clear h h1
    go_enter Tryd.func63, Tryd.ntmps63
    go_wp2
    go_ret
    exact ⟨rfl, rfl⟩
theorem shows_true (c : Int) (w : World) (h : (32 ≤ c ∧ c ≤ 126) ∨ 160 ≤ c) : Calls Tryd.prog 76 #[.int .u8 c] w fun e w' => e = .returned (.bool true) ∧ w = w' := by
  by_cases h1 : 32 ≤ c ∧ c ≤ 126
  · obtain ⟨h1, h2⟩ := h1
    clear h
    go_enter Tryd.func76, Tryd.ntmps76
    go_wp2_with (go_at_call 63; refine (in_true c 32 126 _ h1 h2).mono ?_; rintro e w' ⟨rfl, rfl⟩)
    go_ret
    exact ⟨rfl, rfl⟩
  · have h2 : 160 ≤ c := h.resolve_left h1
    clear h h1
    go_enter Tryd.func76, Tryd.ntmps76
    go_wp2_with (go_at_call 63; refine (in_false c 32 126 _ (by omega)).mono ?_; rintro e w' ⟨rfl, rfl⟩)
    go_ret
    exact ⟨rfl, rfl⟩
theorem shows_false (c : Int) (w : World) (h : c < 32) : Calls Tryd.prog 76 #[.int .u8 c] w fun e w' => e = .returned (.bool false) ∧ w = w' := by
  have h2 : decide (160 ≤ c) = false := by simp; omega
  go_enter Tryd.func76, Tryd.ntmps76
  go_wp2_with (go_at_call 63; refine (in_false c 32 126 _ (by omega)).mono ?_; rintro e w' ⟨rfl, rfl⟩)
  go_ret
  exact ⟨rfl, rfl⟩
theorem data_true (c : Int) (w : World) (h : dataOk c = true) : Calls Tryd.prog 62 #[.int .u8 c] w fun e w' => e = .returned (.bool true) ∧ w = w' := by
  simp only [dataOk, Bool.or_eq_true, Bool.and_eq_true, decide_eq_true_eq] at h
  by_cases h1 : c < 32
  · have h2 : 8 ≤ c ∧ c ≤ 13 := by omega
    obtain ⟨h2, h3⟩ := h2
    clear h
    go_enter Tryd.func62, Tryd.ntmps62
    go_wp2_with (first
      | (go_at_call 76; refine (shows_false c _ h1).mono ?_; rintro e w' ⟨rfl, rfl⟩)
      | (go_at_call 63; refine (in_true c 8 13 _ h2 h3).mono ?_; rintro e w' ⟨rfl, rfl⟩))
    go_ret
    exact ⟨rfl, rfl⟩
  · have h2 : (32 ≤ c ∧ c ≤ 126) ∨ 160 ≤ c := by omega
    have H := Lib.hid h2
    clear h h2
    go_enter Tryd.func62, Tryd.ntmps62
    go_wp2_with (go_at_call 76; refine (shows_true c _ H.out).mono ?_; rintro e w' ⟨rfl, rfl⟩)
    go_ret
    exact ⟨rfl, rfl⟩
theorem inter_true (c : Int) (w : World) (h1 : 32 ≤ c) (h2 : c ≤ 47) : Calls Tryd.prog 61 #[.int .i32 c] w fun e w' => e = .returned (.bool true) ∧ w = w' := by
  go_enter Tryd.func61, Tryd.ntmps61
  go_wp2
  go_ret
  exact ⟨rfl, rfl⟩
theorem opens_any (k : Int) (w : World) : Calls Tryd.prog 48 #[.int .i64 k] w fun e w' => e = .returned (.int .u8 (beginsR k)) ∧ w = w' := by
  go_enter Tryd.func48, Tryd.ntmps48
  go_wp2
  all_goals (go_ret; refine ⟨?_, rfl⟩; simp_all [beginsR])
theorem clip_in (x : Int) (w : World) (h1 : 0 ≤ x) (h2 : x ≤ 65535) : Calls Tryd.prog 36 #[.int .i64 x, .int .i64 0, .int .i64 65535] w fun e w' => e = .returned (.int .i64 x) ∧ w = w' := by
  go_enter Tryd.func36, Tryd.ntmps36
  go_wp2
  all_goals (go_ret; refine ⟨?_, rfl⟩; first | rfl | ((obtain rfl : x = 0 := by omega); rfl))
theorem wide_false (x : Int) (w : World) (h1 : 0 ≤ x) (h2 : x ≤ 65535) : Calls Tryd.prog 74 #[.int .i64 x] w fun e w' => e = .returned (.bool false) ∧ w = w' := by
  go_enter Tryd.func74, Tryd.ntmps74
  go_wp2_with (go_at_call 36; refine (clip_in x _ h1 h2).mono ?_; rintro e w' ⟨rfl, rfl⟩)
  go_ret
  exact ⟨rfl, rfl⟩
set_option maxRecDepth 100000 in
set_option maxHeartbeats 1000000 in
theorem index_none {w : World} {v : Value} {l : List Int} (h : HasRow w 3 v l.length (icells l)) (hl : NumsL l) :
    Calls Tryd.prog 88 #[v, .func (.func 74) #[] #[]] w fun e w' => e = .returned (.int .i64 (-1)) ∧ w = w' := by
  obtain ⟨h30, hr⟩ := hl
  obtain ⟨a1, c1, rfl⟩ := h.form
  have HR := Lib.hid hr
  clear hr
  go_enter Tryd.func88, Tryd.ntmps88
  go_wp2_with fail
  go_loop [8] (fun i => ∃ k : Nat, k ≤ l.length ∧ i = .int .i64 k) (fun i => l.length - (intOf i).toNat)
  case atStart => exact ⟨0, Nat.zero_le _, rfl⟩
  case round =>
    obtain ⟨k, hk, rfl⟩ := hrel
    by_cases hlt : k < l.length
    · obtain ⟨g1, p1, u1, hv1, hu1, hc1⟩ := h.at_ hlt
      injection hv1 with e1 e2 e3
      subst e1
      have hu := icells_at hu1
      subst hu
      have hx := HR.out (l.getD k 0) (by rw [List.getD, List.getElem?_eq_getElem hlt]; exact List.getElem_mem hlt)
      obtain ⟨x, hxd⟩ : ∃ x, x = l.getD k 0 := ⟨_, rfl⟩
      rw [← hxd] at hc1 hx
      obtain ⟨hx1, hx2⟩ := hx
      have hkn : (k : Int) < (l.length : Int) := by omega
      have k0 : (0 : Int) ≤ (k : Int) := by omega
      clear hxd h hu1 e2 e3
      go_wp2_with (go_at_call 74; refine (wide_false x _ hx1 hx2).mono ?_; rintro e w' ⟨rfl, rfl⟩)
      go_round
      case rel => exact ⟨k + 1, by omega, by go_num⟩
      case measure => simp [intOf]; omega
    · have hkn : ¬ (k : Int) < (l.length : Int) := by omega
      clear h
      go_wp2_with fail
      go_ret
      exact ⟨rfl, rfl⟩
theorem contains_none {w : World} {v : Value} {l : List Int} (h : HasRow w 3 v l.length (icells l)) (hl : NumsL l) :
    Calls Tryd.prog 75 #[v, .func (.func 74) #[] #[]] w fun e w' => e = .returned (.bool false) ∧ w = w' := by
  have hi := index_none h hl
  clear h hl
  go_enter Tryd.func75, Tryd.ntmps75
  go_wp2_with (go_at_call 88; refine hi.mono ?_; rintro e w' ⟨rfl, rfl⟩)
  go_ret
  exact ⟨rfl, rfl⟩
end Go.Proofs.YtjfffkaifcajbaaDoor
