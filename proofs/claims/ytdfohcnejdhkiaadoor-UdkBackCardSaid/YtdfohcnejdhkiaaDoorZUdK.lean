/-
  Keys with texts: the document's list in memory; Is, Used, put, Get of the document.
-/
import Derived.Test.YtdfohcnejdhkiaaDoorZUdG
namespace Go.Proofs.YtdfohcnejdhkiaaDoor
set_option linter.unusedSimpArgs false
set_option linter.unusedVariables false
open Go.RowKit
set_option linter.unusedVariables false

abbrev Ds := List (Nat × List UInt8)
def dcs : Ds → List Value
  | [] => []
  | p :: l => .int .i64 p.1 :: .string (bsl p.2) :: dcs l
theorem dcs_app : ∀ l r : Ds, dcs (l ++ r) = dcs l ++ dcs r
  | [], r => rfl
  | p :: l, r => by simp [dcs, dcs_app l r]
theorem dcs_at : ∀ (l : Ds) (i : Nat) (p : Nat × List UInt8), l[i]? = some p → (dcs l)[i * 2]? = some (.int .i64 p.1) ∧ (dcs l)[i * 2 + 1]? = some (.string (bsl p.2))
  | [], i, p, h => by simp at h
  | q :: l, 0, p, h => by simp at h; subst h; exact ⟨rfl, rfl⟩
  | q :: l, i + 1, p, h => by
    have := dcs_at l i p (by simpa using h)
    rw [show (i + 1) * 2 = i * 2 + 1 + 1 by omega]
    simpa [dcs] using this
/-- The document's list, whatever memory it lies in. -/
def DL (w : World) (v : Value) (l : Ds) : Prop := w.ownsRow 0 61 2 v l.length (dcs l)
theorem DL.gr {w w' : World} {v : Value} {l : Ds} (h : DL w v l) (hg : Gr w w') : DL w' v l := ownsRow_gr h hg
theorem DL.nil (w : World) : DL w (.slice none 0 0) [] := World.ownsRow_nil _ _ _ _
theorem DL.form {w : World} {v : Value} {l : Ds} (h : DL w v l) : ∃ a c, v = .slice a l.length c := by
  rcases h.2 with ⟨rfl, e⟩ | ⟨g, cap, cur, rfl, _⟩
  · exact ⟨none, 0, by rw [e]⟩
  · exact ⟨_, _, rfl⟩
theorem DL.at_ {w : World} {a : Option Addr} {n c : Nat} {l : Ds} (h : DL w (.slice a n c) l) {i : Nat} {p : Nat × List UInt8} (hp : l[i]? = some p) :
    ∃ g, a = some ⟨g, 0, none⟩ ∧ w.cell? ⟨g, i * 2, none⟩ = some (.int .i64 p.1) ∧ w.cell? ⟨g, i * 2 + 1, none⟩ = some (.string (bsl p.2)) := by
  obtain ⟨h0, h1⟩ := dcs_at l i p hp
  have hil := (List.getElem?_eq_some_iff.1 hp).1
  rcases h.2 with ⟨_, e⟩ | ⟨g, cap, cur, hv, _, hh, hn, _, hs, hk⟩
  · omega
  · injection hv with e1 _ _
    refine ⟨g, e1, cell_of_row hh _ _ ?_, cell_of_row hh _ _ ?_⟩
    · rw [← hk, List.getElem?_take] at h0
      split at h0
      · simpa using h0
      · cases h0
    · rw [← hk, List.getElem?_take] at h1
      split at h1
      · simpa using h1
      · cases h1
theorem text_info : (Tryd.prog.info? 61).map (fun i => (i.zero, i.size, i.bytes)) = some (some (.agg #[.int .i64 0, .string ⟨#[]⟩]), 2, 24) := by kernel_rfl
theorem isZ_iff (n : Int) : isZ n = true ↔ (17 ≤ n ∧ n ≤ 21) ∨ (23 ≤ n ∧ n ≤ 26) ∨ n = 28 ∨ n = 29 ∨ (31 ≤ n ∧ n ≤ 34) := by
  unfold isZ
  simp only [Bool.and_eq_true, decide_eq_true_eq]
  omega
set_option maxHeartbeats 1000000 in
theorem ris_any (n : Int) (w : World) : Calls Tryd.prog 18 #[.int .i64 n] w fun e w' => e = .returned (.bool (isZ n)) ∧ w = w' := by
  obtain ⟨b, hb⟩ : ∃ b, b = isZ n := ⟨_, rfl⟩
  rw [← hb]
  have HB := Lib.hid hb
  clear hb
  have key : ∀ c : Bool, (c = true ↔ (17 ≤ n ∧ n ≤ 21) ∨ (23 ≤ n ∧ n ≤ 26) ∨ n = 28 ∨ n = 29 ∨ (31 ≤ n ∧ n ≤ 34)) → c = b := by
    intro c hc
    rw [HB.out, Bool.eq_iff_iff, isZ_iff]; exact hc
  have KEY := Lib.hid key
  clear key
  rcases (by omega : n < 17 ∨ (17 ≤ n ∧ n ≤ 21) ∨ n = 22 ∨ (23 ≤ n ∧ n ≤ 26) ∨ n = 27 ∨ n = 28 ∨ n = 29 ∨ n = 30 ∨ (31 ≤ n ∧ n ≤ 34) ∨ 34 < n) with h | h | rfl | h | rfl | rfl | rfl | rfl | h | h
  · have a1 : ¬ 17 ≤ n := by omega
    have a2 : ¬ 23 ≤ n := by omega
    have a3 : (n == 28) = false := by simp; omega
    have a4 : (n == 29) = false := by simp; omega
    have a5 : ¬ 31 ≤ n := by omega
    have hb := KEY.out false (by simp only [Bool.false_eq_true, false_iff]; omega)
    subst hb
    clear h
    go_enter Tryd.func18, Tryd.ntmps18
    go_wp2
    go_ret
    exact ⟨rfl, rfl⟩
  · have a1 : 17 ≤ n := by omega
    have a2 : n ≤ 21 := by omega
    have hb := KEY.out true (by simp; omega)
    subst hb
    clear h
    go_enter Tryd.func18, Tryd.ntmps18
    go_wp2
    go_ret
    exact ⟨rfl, rfl⟩
  · have hb := KEY.out false (by decide)
    subst hb
    go_enter Tryd.func18, Tryd.ntmps18
    go_wp2
    go_ret
    exact ⟨rfl, rfl⟩
  · have a1 : 17 ≤ n := by omega
    have a2 : ¬ n ≤ 21 := by omega
    have a3 : 23 ≤ n := by omega
    have a4 : n ≤ 26 := by omega
    have hb := KEY.out true (by simp; omega)
    subst hb
    clear h
    go_enter Tryd.func18, Tryd.ntmps18
    go_wp2
    go_ret
    exact ⟨rfl, rfl⟩
  · have hb := KEY.out false (by decide)
    subst hb
    go_enter Tryd.func18, Tryd.ntmps18
    go_wp2
    go_ret
    exact ⟨rfl, rfl⟩
  · have hb := KEY.out true (by decide)
    subst hb
    go_enter Tryd.func18, Tryd.ntmps18
    go_wp2
    go_ret
    exact ⟨rfl, rfl⟩
  · have hb := KEY.out true (by decide)
    subst hb
    go_enter Tryd.func18, Tryd.ntmps18
    go_wp2
    go_ret
    exact ⟨rfl, rfl⟩
  · have hb := KEY.out false (by decide)
    subst hb
    go_enter Tryd.func18, Tryd.ntmps18
    go_wp2
    go_ret
    exact ⟨rfl, rfl⟩
  · have a1 : 17 ≤ n := by omega
    have a2 : ¬ n ≤ 21 := by omega
    have a3 : 23 ≤ n := by omega
    have a4 : ¬ n ≤ 26 := by omega
    have a5 : (n == 28) = false := by simp; omega
    have a6 : (n == 29) = false := by simp; omega
    have a7 : 31 ≤ n := by omega
    have a8 : n ≤ 34 := by omega
    have hb := KEY.out true (by simp; omega)
    subst hb
    clear h
    go_enter Tryd.func18, Tryd.ntmps18
    go_wp2
    go_ret
    exact ⟨rfl, rfl⟩
  · have a1 : 17 ≤ n := by omega
    have a2 : ¬ n ≤ 21 := by omega
    have a3 : 23 ≤ n := by omega
    have a4 : ¬ n ≤ 26 := by omega
    have a5 : (n == 28) = false := by simp; omega
    have a6 : (n == 29) = false := by simp; omega
    have a7 : 31 ≤ n := by omega
    have a8 : ¬ n ≤ 34 := by omega
    have hb := KEY.out false (by simp only [Bool.false_eq_true, false_iff]; omega)
    subst hb
    clear h
    go_enter Tryd.func18, Tryd.ntmps18
    go_wp2
    go_ret
    exact ⟨rfl, rfl⟩
theorem usedD_take (l : Ds) (k : Nat) (p : Nat × List UInt8) (h : l[k]? = some p) : usedD (l.take (k + 1)) = usedD (l.take k) + p.2.length := by
  unfold usedD
  rw [List.take_add_one, h]
  simp only [Option.toList_some, List.map_append, List.map_cons, List.map_nil, List.sum_append, List.sum_cons, List.sum_nil, Nat.add_zero]
theorem usedD_le (l : Ds) (k : Nat) : usedD (l.take k) ≤ usedD l := by
  conv => rhs; rw [← List.take_append_drop k l]
  unfold usedD
  rw [List.map_append, List.sum_append]
  omega
set_option maxHeartbeats 400000 in
theorem rused_any {v : Value} {l : Ds} (w : World) (h : DL w v l) (hn : l.length ≤ 1000) (hu : usedD l ≤ 1000000000000) : Calls Tryd.prog 26 #[v] w fun e w' => e = .returned (.int .i64 (usedD l : Nat)) ∧ w = w' := by
  obtain ⟨a, c, rfl⟩ := h.form
  go_enter Tryd.func26, Tryd.ntmps26
  go_wp2_with fail
  go_loopw [3, 4] (fun sv iv wr => ∃ k : Nat, iv = .int .i64 (k : Int) ∧ k ≤ l.length ∧ sv = .int .i64 (usedD (l.take k) : Nat) ∧ wr = w) (fun _ iv _ => l.length - (intOf iv).toNat)
  case atStart => exact ⟨0, rfl, Nat.zero_le _, by simp [usedD], rfl⟩
  case round =>
    obtain ⟨k, rfl, hk, rfl, rfl⟩ := hrel
    by_cases hlt : k < l.length
    · have hki : (k : Int) < (l.length : Int) := by omega
      have hk0 : (0 : Int) ≤ (k : Int) := by omega
      obtain ⟨p, hp⟩ : ∃ p, l[k]? = some p := ⟨_, List.getElem?_eq_getElem hlt⟩
      obtain ⟨g, rfl, z0, z1⟩ := h.at_ hp
      have ht := usedD_take l k p hp
      have hl1 := usedD_le l (k + 1)
      obtain ⟨s, hs⟩ : ∃ s, s = bsl p.2 := ⟨_, rfl⟩
      have hsz : s.size = p.2.length := by rw [hs, bsl_size]
      rw [← hs] at z1
      obtain ⟨U, hU⟩ : ∃ U, U = usedD (l.take k) := ⟨_, rfl⟩
      rw [← hU] at ht ⊢
      rw [← hsz] at ht
      have e1 : IntKind.i64.wrap ((U : Int) + (s.size : Int)) = (U : Int) + (s.size : Int) := IntWalk.i64_in _ (by omega)
      have HT := Lib.hid ht
      clear hsz hs hU ht hl1 hp h
      go_wp2_with fail
      go_roundw
      case rel => exact ⟨k + 1, by go_num, by omega, by rw [HT.out]; simp, by first | rfl | trivial⟩
      case measure => simp [intOf]; omega
    · obtain rfl : k = l.length := by omega
      have hki : ¬ (l.length : Int) < (l.length : Int) := by omega
      rw [List.take_length]
      go_wp2_with fail
      go_ret
      exact ⟨rfl, rfl⟩
end Go.Proofs.YtdfohcnejdhkiaaDoor
