/-
  The parser's method header, walked.
-/
import Derived.Test.YtgbmjlajheeciaaPbF
namespace Go.Proofs.Ytgbmjlajheeciaa
set_option linter.unusedSimpArgs false
set_option linter.unusedVariables false
set_option linter.unusedSectionVars false
open Go.RowKit
variable [Bs]

variable {lv : List Nat} {w : World} {p o : Nat} {s : PS} {ts : List Tok}

set_option maxRecDepth 100000 in
set_option maxHeartbeats 1000000 in
theorem header_last (c : Int) (hc : 64 ≤ c ∧ c < 256) (hok : s.ok) (hn : ts.length ≤ 100000) (h : SS lv w p s o ts) : Calls Try.prog 63 #[.pointer (some ⟨p, 0, none⟩), .int .u8 c, .pointer (some ⟨o, 0, none⟩)] w fun e w' => e = .returned (.tuple #[]) ∧ Took lv w p o ts (headerM s c) w' := by
  obtain ⟨hS1, hs1⟩ := h.set 11 (.bool false) { s with first := false } (fun _ _ _ => rfl) rfl rfl rfl
  obtain ⟨hS2, hs2⟩ := hS1.set 2 (.int .u8 c) { s with first := false, code := c } (fun _ _ _ => rfl) rfl rfl rfl
  obtain ⟨hS3, hs3⟩ := hS2.set 0 (.int .i64 3) { s with first := false, code := c, phase := 3 } (fun _ _ _ => rfl) rfl rfl rfl
  have hok2 := ok_code (ok_first hok false) c (by omega)
  obtain ⟨iv, dv, av, ov, qs, hS⟩ := h
  obtain ⟨k0, k1, k2, k3, k4, k5, k6, k7, k8, k9, k10, k11, k12, kf⟩ := cells13 hS.pm.blk
  obtain ⟨hc1, hc2⟩ := hc
  go_enter Try.func63, Try.ntmps63
  go_wp2_with (first
    | (go_at_call 60; refine (done_SS hok2 hn hS2).mono ?_; rintro e w1 ⟨rfl, lv1, hs4, hS4⟩))
  · refine bodyPost_ret (results_none rfl _ _ _) rfl ⟨rfl, ?_⟩
    have hk : s.kind = 4 := by simp_all
    have e : headerM s c = (PS.init, emit { s with first := false, code := c }) := by simp only [headerM]; rw [if_neg (by omega), if_pos hc1, if_pos hk]
    rw [e]; exact .of ((hs1.trans hs2).trans hs4) hS4
  · go_end0
    refine ⟨rfl, ?_⟩
    have hk : ¬ s.kind = 4 := by simp_all
    have e : headerM s c = ({ s with first := false, code := c, phase := 3 }, []) := by simp only [headerM]; rw [if_neg (by omega), if_pos hc1, if_neg hk]
    rw [e]; exact .of0 ((hs1.trans hs2).trans hs3) hS3
set_option maxRecDepth 100000 in
set_option maxHeartbeats 1000000 in
theorem header_few (c : Int) (hc : 0 ≤ c ∧ c < 48) (hok : s.ok) (h : SS lv w p s o ts) : Calls Try.prog 63 #[.pointer (some ⟨p, 0, none⟩), .int .u8 c, .pointer (some ⟨o, 0, none⟩)] w fun e w' => e = .returned (.tuple #[]) ∧ Took lv w p o ts (headerM s c) w' := by
  obtain ⟨hS1, hs1⟩ := h.set 11 (.bool false) { s with first := false } (fun _ _ _ => rfl) rfl rfl rfl
  have hok1 := ok_first hok false
  obtain ⟨iv, dv, av, ov, qs, hS⟩ := h
  obtain ⟨k0, k1, k2, k3, k4, k5, k6, k7, k8, k9, k10, k11, k12, kf⟩ := cells13 hS.pm.blk
  obtain ⟨hc1, hc2⟩ := hc
  go_enter Try.func63, Try.ntmps63
  go_wp2_with (first
    | (go_at_call 70; refine (inter_SS c hok1 hS1).mono ?_; rintro e w1 ⟨rfl, lv1, hs4, hS4⟩))
  go_end0
  refine ⟨rfl, ?_⟩
  have e : headerM s c = (interM { s with first := false } c, []) := by simp only [headerM]; rw [if_pos hc2]
  rw [e]; exact .of0 (hs1.trans hs4) hS4
set_option maxRecDepth 100000 in
set_option maxHeartbeats 1000000 in
theorem header_mark (c : Int) (hc : 60 ≤ c ∧ c < 64) (hf : s.first = true) (h : SS lv w p s o ts) : Calls Try.prog 63 #[.pointer (some ⟨p, 0, none⟩), .int .u8 c, .pointer (some ⟨o, 0, none⟩)] w fun e w' => e = .returned (.tuple #[]) ∧ Took lv w p o ts (headerM s c) w' := by
  obtain ⟨hS1, hs1⟩ := h.set 11 (.bool false) { s with first := false } (fun _ _ _ => rfl) rfl rfl rfl
  obtain ⟨hS2, hs2⟩ := hS1.set 3 (.int .u8 c) { s with first := false, mark := c } (fun _ _ _ => rfl) rfl rfl rfl
  obtain ⟨iv, dv, av, ov, qs, hS⟩ := h
  obtain ⟨k0, k1, k2, k3, k4, k5, k6, k7, k8, k9, k10, k11, k12, kf⟩ := cells13 hS.pm.blk
  obtain ⟨hc1, hc2⟩ := hc
  have hc3 := decide_eq_true hc1
  rw [hf] at k11
  go_enter Try.func63, Try.ntmps63
  go_wp2_with fail
  go_end0
  refine ⟨rfl, ?_⟩
  have e : headerM s c = ({ s with first := false, mark := c }, []) := by simp only [headerM]; rw [if_neg (by omega), if_neg (by omega), if_pos ⟨hc1, hf⟩]
  rw [e]; exact .of0 (hs1.trans hs2) hS2
set_option maxRecDepth 100000 in
set_option maxHeartbeats 1000000 in
theorem header_void (c : Int) (hc : 48 ≤ c ∧ c < 64) (hf : ¬ (60 ≤ c ∧ s.first = true)) (hv : 0 < s.inters.length ∨ s.void = true) (h : SS lv w p s o ts) : Calls Try.prog 63 #[.pointer (some ⟨p, 0, none⟩), .int .u8 c, .pointer (some ⟨o, 0, none⟩)] w fun e w' => e = .returned (.tuple #[]) ∧ Took lv w p o ts (headerM s c) w' := by
  obtain ⟨hS1, hs1⟩ := h.set 11 (.bool false) { s with first := false } (fun _ _ _ => rfl) rfl rfl rfl
  obtain ⟨hS2, hs2⟩ := hS1.set 12 (.bool true) { s with first := false, void := true } (fun _ _ _ => rfl) rfl rfl rfl
  have e : headerM s c = ({ s with first := false, void := true }, []) := by
    simp only [headerM]
    rw [if_neg (by omega), if_neg (by omega), if_neg hf, if_pos]
    rcases hv with hv | hv
    · exact .inl (by intro e; simp [e] at hv)
    · exact .inr (.inl hv)
  rw [e]
  have E := Lib.hid e; clear e
  obtain ⟨iv, dv, av, ov, qs, hS⟩ := h
  obtain ⟨k0, k1, k2, k3, k4, k5, k6, k7, k8, k9, k10, k11, k12, kf⟩ := cells13 hS.pm.blk
  obtain ⟨ia, ic, rfl⟩ := row_form hS.pm.inters
  obtain ⟨hc1, hc2⟩ := hc
  by_cases hi : 0 < s.inters.length <;> by_cases h60 : 60 ≤ c
  all_goals
    try have hv : s.void = true := by simp_all
    try have hf' : s.first = false := by simp_all
    clear hf
    have H := Lib.hid hv; clear hv
    try have H2 := Lib.hid hf'
    try rw [H.out] at k12
    try rw [H2.out] at k11
    try clear hf'
    go_enter Try.func63, Try.ntmps63
    go_wp2_with fail
    go_end0
    exact ⟨rfl, .of0 (hs1.trans hs2) hS2⟩

set_option maxRecDepth 100000 in
set_option maxHeartbeats 1000000 in
theorem header_acc (c : Int) (hc : 48 ≤ c ∧ c < 64) (hf : ¬ (60 ≤ c ∧ s.first = true)) (hi : s.inters = []) (hv : s.void = false) (hok : s.ok) (h : SS lv w p s o ts) : Calls Try.prog 63 #[.pointer (some ⟨p, 0, none⟩), .int .u8 c, .pointer (some ⟨o, 0, none⟩)] w fun e w' => e = .returned (.tuple #[]) ∧ Took lv w p o ts (headerM s c) w' := by
  obtain ⟨hS1, hs1⟩ := h.set 11 (.bool false) { s with first := false } (fun _ _ _ => rfl) rfl rfl rfl
  have hok1 := ok_first hok false
  have e : headerM s c = if isAcc c = false then ({ s with first := false, void := true }, []) else (accByte { s with first := false } c, []) := by
    simp only [headerM]
    rw [if_neg (by omega), if_neg (by omega), if_neg hf]
    simp [hi, hv]
  rw [e]
  have E := Lib.hid e; clear e
  obtain ⟨iv, dv, av, ov, qs, hS⟩ := h
  obtain ⟨k0, k1, k2, k3, k4, k5, k6, k7, k8, k9, k10, k11, k12, kf⟩ := cells13 hS.pm.blk
  obtain ⟨ia, ic, rfl⟩ := row_form hS.pm.inters
  have hi0 : s.inters.length = 0 := by simp [hi]
  rw [hi0] at k7
  rw [hv] at k12
  have H := Lib.hid hv; clear hv
  have H1 := Lib.hid hi; clear hi
  have H2 := Lib.hid hi0; clear hi0
  obtain ⟨hc1, hc2⟩ := hc
  have hB := accByte_SS c (by omega) (by omega) hok1 hS1
  cases hA : isAcc c <;> by_cases h60 : 60 ≤ c
  all_goals
    try have hf' : s.first = false := by simp_all
    clear hf
    rw [hA] at hB
    have H3 := Lib.hid hA; clear hA
    try have H4 := Lib.hid hf'
    try rw [H4.out] at k11
    try clear hf'
    go_enter Try.func63, Try.ntmps63
    go_wp2_with (first
      | (go_at_call 71; refine hB.mono ?_; rintro e w1 ⟨rfl, lv1, hs4, hS4⟩
         have hS4' := hS4
         obtain ⟨iv1, dv1, av1, ov1, qs1, hS5⟩ := hS4'
         obtain ⟨q0, q1, q2, q3, q4, q5, q6, q7, q8, q9, q10, q11, q12, qf⟩ := cells13 hS5.pm.blk))
    go_end0
    refine ⟨rfl, ?_⟩
    first
      | (have e : accS { s with first := false } c = { s with first := false } := by simp [accS, H3.out]
         rw [e] at hS4
         obtain ⟨hS6, hs6⟩ := hS4.set 12 (.bool true) { s with first := false, void := true } (fun _ _ _ => rfl) rfl rfl rfl
         exact .of0 ((hs1.trans hs4).trans hs6) hS6)
      | (have e : accS { s with first := false } c = accByte { s with first := false } c := by simp [accS, H3.out]
         rw [e] at hS4
         exact .of0 (hs1.trans hs4) hS4)

theorem header_SS (c : Int) (hc : 0 ≤ c ∧ c < 256) (hok : s.ok) (hn : ts.length ≤ 100000) (h : SS lv w p s o ts) : Calls Try.prog 63 #[.pointer (some ⟨p, 0, none⟩), .int .u8 c, .pointer (some ⟨o, 0, none⟩)] w fun e w' => e = .returned (.tuple #[]) ∧ Took lv w p o ts (headerM s c) w' := by
  by_cases h1 : 64 ≤ c
  · exact header_last c ⟨h1, hc.2⟩ hok hn h
  by_cases h2 : c < 48
  · exact header_few c ⟨hc.1, h2⟩ hok h
  by_cases h3 : 60 ≤ c ∧ s.first = true
  · exact header_mark c ⟨h3.1, by omega⟩ h3.2 h
  by_cases h4 : 0 < s.inters.length
  · exact header_void c ⟨by omega, by omega⟩ h3 (.inl h4) h
  cases h5 : s.void with
  | true => exact header_void c ⟨by omega, by omega⟩ h3 (.inr h5) h
  | false => exact header_acc c ⟨by omega, by omega⟩ h3 (List.eq_nil_of_length_eq_zero (by omega)) h5 hok h
end Go.Proofs.Ytgbmjlajheeciaa
