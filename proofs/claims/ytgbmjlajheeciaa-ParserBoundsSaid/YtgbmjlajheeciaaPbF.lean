/-
  The parser's method escaped, walked.
-/
import Derived.Test.YtgbmjlajheeciaaPbE
namespace Go.Proofs.Ytgbmjlajheeciaa
set_option linter.unusedSimpArgs false
set_option linter.unusedVariables false
set_option linter.unusedSectionVars false
open Go.RowKit
variable [Bs]

variable {lv : List Nat} {w : World} {p o : Nat} {s : PS} {ts : List Tok}

/-- What a byte that is taken leaves. -/
def Took (lv : List Nat) (w : World) (p o : Nat) (ts : List Tok) (r : PS × List Tok) (w' : World) : Prop := ∃ lv', Stp lv w lv' w' ∧ SS lv' w' p r.1 o (ts ++ r.2)
theorem Took.of {lv lv' : List Nat} {w w' : World} {p o : Nat} {ts : List Tok} {r : PS × List Tok} (hs : Stp lv w lv' w') (h : SS lv' w' p r.1 o (ts ++ r.2)) : Took lv w p o ts r w' := ⟨lv', hs, h⟩
theorem Took.of0 {lv lv' : List Nat} {w w' : World} {p o : Nat} {ts : List Tok} {s : PS} (hs : Stp lv w lv' w') (h : SS lv' w' p s o ts) : Took lv w p o ts (s, []) w' := ⟨lv', hs, by simpa using h⟩

/-- One cell of the parser is another. -/
theorem SS.set (h : SS lv w p s o ts) (i : Nat) (u : Value) (s' : PS) (hcs : ∀ iv dv av, (pcells s iv dv av).setIfInBounds i u = pcells s' iv dv av)
    (hi : s'.inters = s.inters) (hd : s'.data = s.data) (ha : s'.done = s.done) : SS lv (w.setCell ⟨p, i, none⟩ u) p s' o ts ∧ Stp lv w lv (w.setCell ⟨p, i, none⟩ u) := by
  obtain ⟨iv, dv, av, ov, qs, hS⟩ := h
  obtain ⟨h2, hu⟩ := hS.set (s' := s') i u (hcs _ _ _) hi hd ha
  exact ⟨⟨_, _, _, _, _, h2⟩, .one hS.pm.pIn hu⟩

set_option maxRecDepth 100000 in
set_option maxHeartbeats 1000000 in
theorem escaped_SS (c : Int) (hc : 0 ≤ c ∧ c < 256) (hok : s.ok) (hn : ts.length ≤ 100000) (h : SS lv w p s o ts) : Calls Try.prog 62 #[.pointer (some ⟨p, 0, none⟩), .int .u8 c, .pointer (some ⟨o, 0, none⟩)] w fun e w' => e = .returned (.tuple #[]) ∧ Took lv w p o ts (escapedM s c) w' := by
  obtain ⟨hSc, hsc⟩ := h.set 2 (.int .u8 c) { s with code := c } (fun _ _ _ => rfl) rfl rfl rfl
  have hokc := ok_code hok c hc
  have hh := h
  obtain ⟨iv, dv, av, ov, qs, hS⟩ := h
  obtain ⟨k0, k1, k2, k3, k4, k5, k6, k7, k8, k9, k10, k11, k12, kf⟩ := cells13 hS.pm.blk
  obtain ⟨kd, hkd⟩ : ∃ kd, kd = opKind c := ⟨_, rfl⟩
  obtain ⟨ka, hka⟩ : ∃ ka, ka = opAt c := ⟨_, rfl⟩
  have ho : Calls Try.prog 69 #[.int .u8 c] w fun e w' => e = .returned (.tuple #[.int .i64 kd, .int .i64 ka]) ∧ w = w' := by rw [hkd, hka]; exact opened_walk c w
  have H1 := Lib.hid hkd
  have H2 := Lib.hid hka
  clear hkd hka
  go_enter Try.func62, Try.ntmps62
  go_wp2_with (first
    | (go_at_call 69; refine ho.mono ?_; rintro e w' ⟨rfl, rfl⟩)
    | (go_at_call 70; refine (inter_SS c hok hh).mono ?_; rintro e w1 ⟨rfl, lv1, hs1, hS1⟩)
    | (go_at_call 60; refine (done_SS hokc hn hSc).mono ?_; rintro e w1 ⟨rfl, lv1, hs1, hS1⟩)
    | (go_at_call 59; refine (begin_SS ka kd hh).mono ?_; rintro e w1 ⟨rfl, hs1, hS1⟩)
    | (go_at_call 20; refine (reset_SS hh).mono ?_; rintro e w1 ⟨rfl, hs1, hS1⟩))
  all_goals go_end0
  all_goals refine ⟨rfl, ?_⟩
  · have e : escapedM s c = (interM s c, []) := by simp only [escapedM]; rw [if_pos (by omega)]
    rw [e]; exact .of0 hs1 hS1
  · have hf : s.first = false := by simp_all
    have e : escapedM s c = (PS.init, emit { s with code := c }) := by simp only [escapedM]; rw [if_neg (by omega), if_pos hf]
    rw [e]; exact .of (hsc.trans hs1) hS1
  all_goals
    have hf : ¬ s.first = false := by simp_all
  · have hk : opKind c ≠ 0 := by rw [← H1.out]; simp_all
    have e : escapedM s c = (PS.begin_ ka kd, []) := by simp only [escapedM]; rw [if_neg (by omega), if_neg hf, if_pos hk, H1.out, H2.out]
    rw [e]; exact .of0 hs1 hS1
  all_goals
    have hk : ¬ opKind c ≠ 0 := by rw [← H1.out]; simp_all
  · have hc : c = 92 := by simp_all
    have e : escapedM s c = (PS.init, []) := by simp only [escapedM]; rw [if_neg (by omega), if_neg hf, if_neg hk, if_pos hc]
    rw [e]; exact .of0 hs1 hS1
  · have hc : ¬ c = 92 := by simp_all
    have e : escapedM s c = (PS.init, emit { s with code := c }) := by simp only [escapedM]; rw [if_neg (by omega), if_neg hf, if_neg hk, if_neg hc]
    rw [e]; exact .of (hsc.trans hs1) hS1
end Go.Proofs.Ytgbmjlajheeciaa
