/-
  The parser's method header, walked.
  The parser's method control, walked.
  The parser's method take, walked.
  The parser takes a byte, walked.
  The parser is fed, walked.
-/
import Derived.Test.YtnnhaenmoifplaaDoorZPbF
namespace Go.Proofs.YtnnhaenmoifplaaDoor
set_option linter.unusedSimpArgs false
set_option linter.unusedVariables false
set_option linter.unusedSectionVars false
open Go.RowKit
variable [Bs]

variable {lv : List Nat} {w : World} {p o : Nat} {s : PS} {ts : List Tok}

set_option maxRecDepth 100000 in
set_option maxHeartbeats 1000000 in
theorem header_last (c : Int) (hc : 64 ≤ c ∧ c < 256) (hok : s.ok) (hn : ts.length ≤ 100000) (h : SS lv w p s o ts) : Calls Tryd.prog 35 #[.pointer (some ⟨p, 0, none⟩), .int .u8 c, .pointer (some ⟨o, 0, none⟩)] w fun e w' => e = .returned (.tuple #[]) ∧ Took lv w p o ts (headerM s c) w' := by
  obtain ⟨hS1, hs1⟩ := h.set 11 (.bool false) { s with first := false } (fun _ _ _ => rfl) rfl rfl rfl
  obtain ⟨hS2, hs2⟩ := hS1.set 2 (.int .u8 c) { s with first := false, code := c } (fun _ _ _ => rfl) rfl rfl rfl
  obtain ⟨hS3, hs3⟩ := hS2.set 0 (.int .i64 3) { s with first := false, code := c, phase := 3 } (fun _ _ _ => rfl) rfl rfl rfl
  have hok2 := ok_code (ok_first hok false) c (by omega)
  obtain ⟨iv, dv, av, ov, qs, hS⟩ := h
  obtain ⟨k0, k1, k2, k3, k4, k5, k6, k7, k8, k9, k10, k11, k12, kf⟩ := cells13 hS.pm.blk
  obtain ⟨hc1, hc2⟩ := hc
  go_enter Tryd.func35, Tryd.ntmps35
  go_wp2_with (first
    | (go_at_call 32; refine (done_SS hok2 hn hS2).mono ?_; rintro e w1 ⟨rfl, lv1, hs4, hS4⟩))
  · refine bodyPost_ret (results_none rfl _ _ _) rfl ⟨rfl, ?_⟩
    have hk : s.kind = 4 := by simp_all
    have e : headerM s c = (PS.init, emit { s with first := false, code := c }) := by simp only [headerM]; rw [if_neg (by omega), if_pos hc1, if_pos hk]
    rw [e]; exact .of ((hs1.trans hs2).trans hs4) hS4
  · go_end0
    refine ⟨rfl, ?_⟩
    have hk : ¬ s.kind = 4 := by simp_all
    have e : headerM s c = ({ s with first := false, code := c, phase := 3 }, []) := by simp only [headerM]; rw [if_neg (by omega), if_pos hc1, if_neg hk]
    rw [e]; exact .of0 ((hs1.trans hs2).trans hs3) hS3
set_option maxRecDepth 100000 in
set_option maxHeartbeats 1000000 in
theorem header_few (c : Int) (hc : 0 ≤ c ∧ c < 48) (hok : s.ok) (h : SS lv w p s o ts) : Calls Tryd.prog 35 #[.pointer (some ⟨p, 0, none⟩), .int .u8 c, .pointer (some ⟨o, 0, none⟩)] w fun e w' => e = .returned (.tuple #[]) ∧ Took lv w p o ts (headerM s c) w' := by
  obtain ⟨hS1, hs1⟩ := h.set 11 (.bool false) { s with first := false } (fun _ _ _ => rfl) rfl rfl rfl
  have hok1 := ok_first hok false
  obtain ⟨iv, dv, av, ov, qs, hS⟩ := h
  obtain ⟨k0, k1, k2, k3, k4, k5, k6, k7, k8, k9, k10, k11, k12, kf⟩ := cells13 hS.pm.blk
  obtain ⟨hc1, hc2⟩ := hc
  go_enter Tryd.func35, Tryd.ntmps35
  go_wp2_with (first
    | (go_at_call 44; refine (inter_SS c hok1 hS1).mono ?_; rintro e w1 ⟨rfl, lv1, hs4, hS4⟩))
  go_end0
  refine ⟨rfl, ?_⟩
  have e : headerM s c = (interM { s with first := false } c, []) := by simp only [headerM]; rw [if_pos hc2]
  rw [e]; exact .of0 (hs1.trans hs4) hS4
set_option maxRecDepth 100000 in
set_option maxHeartbeats 1000000 in
theorem header_mark (c : Int) (hc : 60 ≤ c ∧ c < 64) (hf : s.first = true) (h : SS lv w p s o ts) : Calls Tryd.prog 35 #[.pointer (some ⟨p, 0, none⟩), .int .u8 c, .pointer (some ⟨o, 0, none⟩)] w fun e w' => e = .returned (.tuple #[]) ∧ Took lv w p o ts (headerM s c) w' := by
  obtain ⟨hS1, hs1⟩ := h.set 11 (.bool false) { s with first := false } (fun _ _ _ => rfl) rfl rfl rfl
  obtain ⟨hS2, hs2⟩ := hS1.set 3 (.int .u8 c) { s with first := false, mark := c } (fun _ _ _ => rfl) rfl rfl rfl
  obtain ⟨iv, dv, av, ov, qs, hS⟩ := h
  obtain ⟨k0, k1, k2, k3, k4, k5, k6, k7, k8, k9, k10, k11, k12, kf⟩ := cells13 hS.pm.blk
  obtain ⟨hc1, hc2⟩ := hc
  have hc3 := decide_eq_true hc1
  rw [hf] at k11
  go_enter Tryd.func35, Tryd.ntmps35
  go_wp2_with fail
  go_end0
  refine ⟨rfl, ?_⟩
  have e : headerM s c = ({ s with first := false, mark := c }, []) := by simp only [headerM]; rw [if_neg (by omega), if_neg (by omega), if_pos ⟨hc1, hf⟩]
  rw [e]; exact .of0 (hs1.trans hs2) hS2
set_option maxRecDepth 100000 in
set_option maxHeartbeats 1000000 in
theorem header_void (c : Int) (hc : 48 ≤ c ∧ c < 64) (hf : ¬ (60 ≤ c ∧ s.first = true)) (hv : 0 < s.inters.length ∨ s.void = true) (h : SS lv w p s o ts) : Calls Tryd.prog 35 #[.pointer (some ⟨p, 0, none⟩), .int .u8 c, .pointer (some ⟨o, 0, none⟩)] w fun e w' => e = .returned (.tuple #[]) ∧ Took lv w p o ts (headerM s c) w' := by
  obtain ⟨hS1, hs1⟩ := h.set 11 (.bool false) { s with first := false } (fun _ _ _ => rfl) rfl rfl rfl
  obtain ⟨hS2, hs2⟩ := hS1.set 12 (.bool true) { s with first := false, void := true } (fun _ _ _ => rfl) rfl rfl rfl
  have e : headerM s c = ({ s with first := false, void := true }, []) := by
    simp only [headerM]
    rw [if_neg (by omega), if_neg (by omega), if_neg hf, if_pos]
    rcases hv with hv | hv
    · exact .inl (by intro e; simp [e] at hv)
    · exact .inr (.inl hv)
  rw [e]
  have E := Lib.hid e; clear e
  obtain ⟨iv, dv, av, ov, qs, hS⟩ := h
  obtain ⟨k0, k1, k2, k3, k4, k5, k6, k7, k8, k9, k10, k11, k12, kf⟩ := cells13 hS.pm.blk
  obtain ⟨ia, ic, rfl⟩ := row_form hS.pm.inters
  obtain ⟨hc1, hc2⟩ := hc
  by_cases hi : 0 < s.inters.length <;> by_cases h60 : 60 ≤ c
  all_goals
    try have hv : s.void = true := by simp_all
    try have hf' : s.first = false := by simp_all
    clear hf
    have H := Lib.hid hv; clear hv
    try have H2 := Lib.hid hf'
    try rw [H.out] at k12
    try rw [H2.out] at k11
    try clear hf'
    go_enter Tryd.func35, Tryd.ntmps35
    go_wp2_with fail
    go_end0
    exact ⟨rfl, .of0 (hs1.trans hs2) hS2⟩

set_option maxRecDepth 100000 in
set_option maxHeartbeats 1000000 in
theorem header_acc (c : Int) (hc : 48 ≤ c ∧ c < 64) (hf : ¬ (60 ≤ c ∧ s.first = true)) (hi : s.inters = []) (hv : s.void = false) (hok : s.ok) (h : SS lv w p s o ts) : Calls Tryd.prog 35 #[.pointer (some ⟨p, 0, none⟩), .int .u8 c, .pointer (some ⟨o, 0, none⟩)] w fun e w' => e = .returned (.tuple #[]) ∧ Took lv w p o ts (headerM s c) w' := by
  obtain ⟨hS1, hs1⟩ := h.set 11 (.bool false) { s with first := false } (fun _ _ _ => rfl) rfl rfl rfl
  have hok1 := ok_first hok false
  have e : headerM s c = if isAcc c = false then ({ s with first := false, void := true }, []) else (accByte { s with first := false } c, []) := by
    simp only [headerM]
    rw [if_neg (by omega), if_neg (by omega), if_neg hf]
    simp [hi, hv]
  rw [e]
  have E := Lib.hid e; clear e
  obtain ⟨iv, dv, av, ov, qs, hS⟩ := h
  obtain ⟨k0, k1, k2, k3, k4, k5, k6, k7, k8, k9, k10, k11, k12, kf⟩ := cells13 hS.pm.blk
  obtain ⟨ia, ic, rfl⟩ := row_form hS.pm.inters
  have hi0 : s.inters.length = 0 := by simp [hi]
  rw [hi0] at k7
  rw [hv] at k12
  have H := Lib.hid hv; clear hv
  have H1 := Lib.hid hi; clear hi
  have H2 := Lib.hid hi0; clear hi0
  obtain ⟨hc1, hc2⟩ := hc
  have hB := accByte_SS c (by omega) (by omega) hok1 hS1
  cases hA : isAcc c <;> by_cases h60 : 60 ≤ c
  all_goals
    try have hf' : s.first = false := by simp_all
    clear hf
    rw [hA] at hB
    have H3 := Lib.hid hA; clear hA
    try have H4 := Lib.hid hf'
    try rw [H4.out] at k11
    try clear hf'
    go_enter Tryd.func35, Tryd.ntmps35
    go_wp2_with (first
      | (go_at_call 45; refine hB.mono ?_; rintro e w1 ⟨rfl, lv1, hs4, hS4⟩
         have hS4' := hS4
         obtain ⟨iv1, dv1, av1, ov1, qs1, hS5⟩ := hS4'
         obtain ⟨q0, q1, q2, q3, q4, q5, q6, q7, q8, q9, q10, q11, q12, qf⟩ := cells13 hS5.pm.blk))
    go_end0
    refine ⟨rfl, ?_⟩
    first
      | (have e : accS { s with first := false } c = { s with first := false } := by simp [accS, H3.out]
         rw [e] at hS4
         obtain ⟨hS6, hs6⟩ := hS4.set 12 (.bool true) { s with first := false, void := true } (fun _ _ _ => rfl) rfl rfl rfl
         exact .of0 ((hs1.trans hs4).trans hs6) hS6)
      | (have e : accS { s with first := false } c = accByte { s with first := false } c := by simp [accS, H3.out]
         rw [e] at hS4
         exact .of0 (hs1.trans hs4) hS4)

theorem header_SS (c : Int) (hc : 0 ≤ c ∧ c < 256) (hok : s.ok) (hn : ts.length ≤ 100000) (h : SS lv w p s o ts) : Calls Tryd.prog 35 #[.pointer (some ⟨p, 0, none⟩), .int .u8 c, .pointer (some ⟨o, 0, none⟩)] w fun e w' => e = .returned (.tuple #[]) ∧ Took lv w p o ts (headerM s c) w' := by
  by_cases h1 : 64 ≤ c
  · exact header_last c ⟨h1, hc.2⟩ hok hn h
  by_cases h2 : c < 48
  · exact header_few c ⟨hc.1, h2⟩ hok h
  by_cases h3 : 60 ≤ c ∧ s.first = true
  · exact header_mark c ⟨h3.1, by omega⟩ h3.2 h
  by_cases h4 : 0 < s.inters.length
  · exact header_void c ⟨by omega, by omega⟩ h3 (.inl h4) h
  cases h5 : s.void with
  | true => exact header_void c ⟨by omega, by omega⟩ h3 (.inr h5) h
  | false => exact header_acc c ⟨by omega, by omega⟩ h3 (List.eq_nil_of_length_eq_zero (by omega)) h5 hok h
end Go.Proofs.YtnnhaenmoifplaaDoor

namespace Go.Proofs.YtnnhaenmoifplaaDoor
set_option linter.unusedSimpArgs false
set_option linter.unusedVariables false
set_option linter.unusedSectionVars false
open Go.RowKit
variable [Bs]

variable {lv : List Nat} {w : World} {p o : Nat} {s : PS} {ts : List Tok}

/-- Does a byte mean the same everywhere, and what is left of it? -/
def ctlB (s : PS) (c : Int) : Bool × (PS × List Tok) :=
  if s.phase = 4 ∧ c ≠ 27 then (false, (s, []))
  else if c = 27 then (if s.phase = 3 then (true, ({ s with phase := 4 }, [])) else (true, (PS.begin_ 1 3, [])))
  else if c = 24 then (true, (PS.init, []))
  else if c = 26 then (true, (PS.init, [ctrlT 26]))
  else if 32 ≤ c then (false, (s, []))
  else if s.phase ≠ 3 then (true, (s, [ctrlT c]))
  else if c = 7 ∧ s.kind = 6 then (true, (PS.init, emit s))
  else if 8 ≤ c ∧ c ≤ 13 then (false, (s, []))
  else (true, (s, []))

def Ctl (lv : List Nat) (w : World) (p o : Nat) (ts : List Tok) (q : Bool × (PS × List Tok)) (e : Ending) (w' : World) : Prop := e = .returned (.bool q.1) ∧ Took lv w p o ts q.2 w'

/-- A control is said. -/
theorem St.ctrl {iv dv av ov V : Value} {qs : List (Value × Value)} {w1 : World} {g : Nat} (c : Int) (h : St lv w p s iv dv av o ts ov qs) (hG : Grew (w.alloc (.cells (tcells (ctrlT c) (.slice none 0 0, .slice none 0 0)).toArray 34)) w1 ov V g)
    (hown : w1.ownsRow Bs.b 34 6 V (ts.length + 1) (tsCells ts qs ++ tcells (ctrlT c) (.slice none 0 0, .slice none 0 0))) : Took lv w p o ts (s, [ctrlT c]) (w1.setCell ⟨o, 0, none⟩ V) := by
  have hW := (Gr.refl w).alloc (.cells (tcells (ctrlT c) (.slice none 0 0, .slice none 0 0)).toArray 34)
  have ht : TMem lv (w.alloc (.cells (tcells (ctrlT c) (.slice none 0 0, .slice none 0 0)).toArray 34)) (ctrlT c) (.slice none 0 0) (.slice none 0 0) :=
    ⟨.nil _ _, .nil _ _, by simp [Value.ownBlock], by simp [Value.ownBlock], by simp [Value.ownBlock], by simp [Value.ownBlock]⟩
  obtain ⟨h5, hs5⟩ := (h.gr hW).pushO (q := (.slice none 0 0, .slice none 0 0)) ht hG hown
  exact .of ((Stp.gr hW).trans hs5) ⟨_, _, _, _, _, h5⟩

set_option maxRecDepth 100000 in
set_option maxHeartbeats 1000000 in
theorem control_end (c : Int) (hp : s.phase = 4) (hc : c ≠ 27) (h : SS lv w p s o ts) : Calls Tryd.prog 22 #[.pointer (some ⟨p, 0, none⟩), .int .u8 c, .pointer (some ⟨o, 0, none⟩)] w (Ctl lv w p o ts (ctlB s c)) := by
  have e : ctlB s c = (false, (s, [])) := by simp [ctlB, hp, hc]
  rw [e]; clear e
  have hh := h
  obtain ⟨iv, dv, av, ov, qs, hS⟩ := h
  obtain ⟨k0, k1, k2, k3, k4, k5, k6, k7, k8, k9, k10, k11, k12, kf⟩ := cells13 hS.pm.blk
  rw [hp] at k0
  have h1 : (c != 27) = true := by simpa using hc
  clear hp hc
  go_enter Tryd.func22, Tryd.ntmps22
  go_wp2_with fail
  go_ret
  exact ⟨rfl, .of0 (.refl _ _) hh⟩

set_option maxRecDepth 100000 in
set_option maxHeartbeats 1000000 in
theorem control_esc (h : SS lv w p s o ts) : Calls Tryd.prog 22 #[.pointer (some ⟨p, 0, none⟩), .int .u8 27, .pointer (some ⟨o, 0, none⟩)] w (Ctl lv w p o ts (ctlB s 27)) := by
  have hh := h
  obtain ⟨hS1, hs1⟩ := h.set 0 (.int .i64 4) { s with phase := 4 } (fun _ _ _ => rfl) rfl rfl rfl
  obtain ⟨iv, dv, av, ov, qs, hS⟩ := h
  obtain ⟨k0, k1, k2, k3, k4, k5, k6, k7, k8, k9, k10, k11, k12, kf⟩ := cells13 hS.pm.blk
  have hb := begin_SS 1 3 hh
  by_cases h3 : s.phase = 3
  · rw [show ctlB s 27 = (true, ({ s with phase := 4 }, [])) by simp [ctlB, h3]]
    rw [h3] at k0
    clear h3
    go_enter Tryd.func22, Tryd.ntmps22
    go_wp2_with fail
    go_ret
    exact ⟨rfl, .of0 hs1 hS1⟩
  rw [show ctlB s 27 = (true, (PS.begin_ 1 3, [])) by simp [ctlB, h3]]
  by_cases h4 : s.phase = 4
  · rw [h4] at k0
    clear h3
    clear h4
    go_enter Tryd.func22, Tryd.ntmps22
    go_wp2_with (first
      | (go_at_call 30; refine hb.mono ?_; rintro e w1 ⟨rfl, hs2, hS2⟩))
    go_ret
    exact ⟨rfl, .of0 hs2 hS2⟩
  · have q3 : (s.phase == 3) = false := by simpa using h3
    have q4 : (s.phase == 4) = false := by simpa using h4
    clear h3 h4
    go_enter Tryd.func22, Tryd.ntmps22
    go_wp2_with (first
      | (go_at_call 30; refine hb.mono ?_; rintro e w1 ⟨rfl, hs2, hS2⟩))
    go_ret
    exact ⟨rfl, .of0 hs2 hS2⟩

set_option maxRecDepth 100000 in
set_option maxHeartbeats 1000000 in
theorem control_can (hp : s.phase ≠ 4) (h : SS lv w p s o ts) : Calls Tryd.prog 22 #[.pointer (some ⟨p, 0, none⟩), .int .u8 24, .pointer (some ⟨o, 0, none⟩)] w (Ctl lv w p o ts (ctlB s 24)) := by
  have e : ctlB s 24 = (true, (PS.init, [])) := by simp [ctlB, hp]
  rw [e]; clear e
  have hh := h
  obtain ⟨iv, dv, av, ov, qs, hS⟩ := h
  obtain ⟨k0, k1, k2, k3, k4, k5, k6, k7, k8, k9, k10, k11, k12, kf⟩ := cells13 hS.pm.blk
  have hb := reset_SS hh
  have q4 : (s.phase == 4) = false := by simpa using hp
  clear hp
  go_enter Tryd.func22, Tryd.ntmps22
  go_wp2_with (first
    | (go_at_call 31; refine hb.mono ?_; rintro e w1 ⟨rfl, hs2, hS2⟩))
  go_ret
  exact ⟨rfl, .of0 hs2 hS2⟩

set_option maxRecDepth 100000 in
set_option maxHeartbeats 1000000 in
theorem control_sub (hp : s.phase ≠ 4) (hn : ts.length ≤ 100000) (h : SS lv w p s o ts) : Calls Tryd.prog 22 #[.pointer (some ⟨p, 0, none⟩), .int .u8 26, .pointer (some ⟨o, 0, none⟩)] w (Ctl lv w p o ts (ctlB s 26)) := by
  have e : ctlB s 26 = (true, (PS.init, [ctrlT 26])) := by simp [ctlB, hp]
  rw [e]; clear e
  have hh := h
  obtain ⟨iv, dv, av, ov, qs, hS⟩ := h
  obtain ⟨k0, k1, k2, k3, k4, k5, k6, k7, k8, k9, k10, k11, k12, kf⟩ := cells13 hS.pm.blk
  have hb := reset_SS hh
  have q4 : (s.phase == 4) = false := by simpa using hp
  clear hp
  go_enter Tryd.func22, Tryd.ntmps22
  go_wp2_with (first
    | (go_at_call 31; refine hb.mono ?_; rintro e w1 ⟨rfl, hs2, iv1, dv1, av1, ov1, qs1, hS2⟩; obtain ⟨oa, oc, rfl⟩ := row_form hS2.om.row; obtain ⟨r0, rf⟩ := cells1 hS2.om.blk)
    | (refine wpList_pushO rfl _ _ _ rfl Tryd.underlying45 (hS2.gr ((Gr.refl _).alloc _)) (ctrlT 26) (.slice none 0 0, .slice none 0 0) _ rfl rfl (heap_alloc_new _ _) ⟨rfl, rfl⟩ hn ?_
       intro g cap w2 hG hown hb1
       obtain ⟨r0, rf⟩ := cells1 hb1))
  go_ret
  refine ⟨rfl, ?_⟩
  obtain ⟨lv3, hs3, hS3⟩ := hS2.ctrl 26 hG hown
  exact ⟨lv3, hs2.trans hs3, hS3⟩

set_option maxRecDepth 100000 in
set_option maxHeartbeats 1000000 in
theorem control_no (c : Int) (hp : s.phase ≠ 4) (hc : 32 ≤ c ∨ (s.phase = 3 ∧ 8 ≤ c ∧ c ≤ 13)) (h : SS lv w p s o ts) : Calls Tryd.prog 22 #[.pointer (some ⟨p, 0, none⟩), .int .u8 c, .pointer (some ⟨o, 0, none⟩)] w (Ctl lv w p o ts (ctlB s c)) := by
  have e : ctlB s c = (false, (s, [])) := by
    simp only [ctlB]
    rw [if_neg (fun h => hp h.1), if_neg (by omega), if_neg (by omega), if_neg (by omega)]
    split
    · rfl
    · rcases hc with hc | ⟨h1, h2, h3⟩
      · contradiction
      · rw [if_neg (by simpa using h1), if_neg (by omega), if_pos ⟨h2, h3⟩]
  rw [e]; clear e
  have hh := h
  obtain ⟨iv, dv, av, ov, qs, hS⟩ := h
  obtain ⟨k0, k1, k2, k3, k4, k5, k6, k7, k8, k9, k10, k11, k12, kf⟩ := cells13 hS.pm.blk
  have q4 : (s.phase == 4) = false := by simpa using hp
  have c27 : (c == 27) = false := by simp; omega
  have c24 : (c == 24) = false := by simp; omega
  have c26 : (c == 26) = false := by simp; omega
  have c7 : (c == 7) = false := by simp; omega
  clear hp
  rcases hc with hc | ⟨h1, h2, h3⟩
  · go_enter Tryd.func22, Tryd.ntmps22
    go_wp2_with fail
    go_ret
    exact ⟨rfl, .of0 (.refl _ _) hh⟩
  · rw [h1] at k0
    clear q4 h1
    have h4 : c < 32 := by omega
    have h5 := decide_eq_true h2
    go_enter Tryd.func22, Tryd.ntmps22
    go_wp2_with fail
    go_ret
    exact ⟨rfl, .of0 (.refl _ _) hh⟩

set_option maxRecDepth 100000 in
set_option maxHeartbeats 1000000 in
theorem control_out (c : Int) (hp : s.phase ≠ 4) (hp3 : s.phase ≠ 3) (hc : 0 ≤ c ∧ c < 32 ∧ c ≠ 24 ∧ c ≠ 26 ∧ c ≠ 27) (hn : ts.length ≤ 100000) (h : SS lv w p s o ts) : Calls Tryd.prog 22 #[.pointer (some ⟨p, 0, none⟩), .int .u8 c, .pointer (some ⟨o, 0, none⟩)] w (Ctl lv w p o ts (ctlB s c)) := by
  have e : ctlB s c = (true, (s, [ctrlT c])) := by
    simp only [ctlB]
    rw [if_neg (fun h => hp h.1), if_neg (by omega), if_neg (by omega), if_neg (by omega), if_neg (by omega), if_pos hp3]
  rw [e]; clear e
  obtain ⟨iv, dv, av, ov, qs, hS⟩ := h
  obtain ⟨k0, k1, k2, k3, k4, k5, k6, k7, k8, k9, k10, k11, k12, kf⟩ := cells13 hS.pm.blk
  obtain ⟨oa, oc, rfl⟩ := row_form hS.om.row
  obtain ⟨r0, rf⟩ := cells1 hS.om.blk
  have q4 : (s.phase == 4) = false := by simpa using hp
  have q3 : (s.phase == 3) = false := by simpa using hp3
  have c27 : (c == 27) = false := by simp; omega
  have c24 : (c == 24) = false := by simp; omega
  have c26 : (c == 26) = false := by simp; omega
  obtain ⟨hc0, hc1, _⟩ := hc
  clear hp hp3
  go_enter Tryd.func22, Tryd.ntmps22
  go_wp2_with (first
    | (refine wpList_pushO rfl _ _ _ rfl Tryd.underlying45 (hS.gr ((Gr.refl _).alloc _)) (ctrlT c) (.slice none 0 0, .slice none 0 0) _ rfl rfl (heap_alloc_new _ _) ⟨rfl, rfl⟩ hn ?_
       intro g cap w2 hG hown hb1
       obtain ⟨r0, rf⟩ := cells1 hb1))
  go_ret
  exact ⟨rfl, hS.ctrl c hG hown⟩

set_option maxRecDepth 100000 in
set_option maxHeartbeats 1000000 in
theorem control_str (c : Int) (hp3 : s.phase = 3) (hc : 0 ≤ c ∧ c < 32 ∧ c ≠ 24 ∧ c ≠ 26 ∧ c ≠ 27) (hc2 : c < 8 ∨ 13 < c) (hok : s.ok) (hn : ts.length ≤ 100000) (h : SS lv w p s o ts) : Calls Tryd.prog 22 #[.pointer (some ⟨p, 0, none⟩), .int .u8 c, .pointer (some ⟨o, 0, none⟩)] w (Ctl lv w p o ts (ctlB s c)) := by
  have e : ctlB s c = if c = 7 ∧ s.kind = 6 then (true, (PS.init, emit s)) else (true, (s, [])) := by
    simp only [ctlB]
    rw [if_neg (fun h => by omega), if_neg (by omega), if_neg (by omega), if_neg (by omega), if_neg (by omega), if_neg (by simpa using hp3)]
    split
    · rfl
    · rw [if_neg (by omega)]
  rw [e]; clear e
  have hh := h
  have hd := done_SS hok hn h
  obtain ⟨iv, dv, av, ov, qs, hS⟩ := h
  obtain ⟨k0, k1, k2, k3, k4, k5, k6, k7, k8, k9, k10, k11, k12, kf⟩ := cells13 hS.pm.blk
  rw [hp3] at k0
  have c27 : (c == 27) = false := by simp; omega
  have c24 : (c == 24) = false := by simp; omega
  have c26 : (c == 26) = false := by simp; omega
  obtain ⟨hc0, hc1, _⟩ := hc
  clear hp3
  by_cases h7 : c = 7
  · subst h7
    clear hc2 c27 c24 c26 hc0 hc1
    by_cases h6 : s.kind = 6
    · rw [h6] at k1
      rw [if_pos ⟨rfl, h6⟩]
      clear h6
      go_enter Tryd.func22, Tryd.ntmps22
      go_wp2_with (first
        | (go_at_call 32; refine hd.mono ?_; rintro e w1 ⟨rfl, lv1, hs1, hS1⟩))
      go_ret
      exact ⟨rfl, .of hs1 hS1⟩
    · have q6 : (s.kind == 6) = false := by simpa using h6
      rw [if_neg (fun h => h6 h.2)]
      clear h6
      go_enter Tryd.func22, Tryd.ntmps22
      go_wp2_with fail
      go_ret
      exact ⟨rfl, .of0 (.refl _ _) hh⟩
  · have c7 : (c == 7) = false := by simpa using h7
    rw [if_neg (fun h => h7 h.1)]
    clear h7
    rcases hc2 with h8 | h8
    · have h9 : decide (8 ≤ c) = false := by simp; omega
      go_enter Tryd.func22, Tryd.ntmps22
      go_wp2_with fail
      go_ret
      exact ⟨rfl, .of0 (.refl _ _) hh⟩
    · have h9 : decide (8 ≤ c) = true := by simp; omega
      go_enter Tryd.func22, Tryd.ntmps22
      go_wp2_with fail
      go_ret
      exact ⟨rfl, .of0 (.refl _ _) hh⟩

theorem control_SS (c : Int) (hc : 0 ≤ c ∧ c < 256) (hok : s.ok) (hn : ts.length ≤ 100000) (h : SS lv w p s o ts) : Calls Tryd.prog 22 #[.pointer (some ⟨p, 0, none⟩), .int .u8 c, .pointer (some ⟨o, 0, none⟩)] w (Ctl lv w p o ts (ctlB s c)) := by
  by_cases h27 : c = 27
  · subst h27; exact control_esc h
  by_cases h4 : s.phase = 4
  · exact control_end c h4 h27 h
  by_cases h24 : c = 24
  · subst h24; exact control_can h4 h
  by_cases h26 : c = 26
  · subst h26; exact control_sub h4 hn h
  by_cases h32 : 32 ≤ c
  · exact control_no c h4 (.inl h32) h
  by_cases h3 : s.phase = 3
  · by_cases h8 : 8 ≤ c ∧ c ≤ 13
    · exact control_no c h4 (.inr ⟨h3, h8.1, h8.2⟩) h
    · exact control_str c h3 ⟨hc.1, by omega, h24, h26, h27⟩ (by omega) hok hn h
  · exact control_out c h4 h3 ⟨hc.1, by omega, h24, h26, h27⟩ hn h
end Go.Proofs.YtnnhaenmoifplaaDoor

namespace Go.Proofs.YtnnhaenmoifplaaDoor
set_option linter.unusedSimpArgs false
set_option linter.unusedVariables false
set_option linter.unusedSectionVars false
open Go.RowKit
variable [Bs]

variable {lv : List Nat} {w : World} {p o : Nat} {s : PS} {ts : List Tok}

def stepFs : Array Value := #[.func (.func 33) #[] #[], .func (.func 34) #[] #[], .func (.func 35) #[] #[], .func (.func 36) #[] #[], .func (.func 37) #[] #[]]

set_option maxHeartbeats 1000000 in
theorem steps_walk (w : World) : Calls Tryd.prog 23 #[] w fun e w' => e = .returned (.agg stepFs) ∧ Gr w w' := by
  go_enter Tryd.func23, Tryd.ntmps23
  go_wp2_with (refine wpList_store_abs rfl _ _ _ rfl w.heap.size stepFs rfl rfl _ _ (heap_alloc_new _ _) (by kernel_rfl) (by kernel_rfl) (by kernel_rfl) ?_; intro w1 hh hb hs)
  have q := cells5 hh
  refine bodyPost_ret (v := .agg stepFs) (by simp [results, Tryd.results23, go_sem, q, stepFs]) rfl ⟨rfl, ?_⟩
  exact ((Gr.refl w).alloc _).step (Nat.le_refl _) hb

theorem ctlB_false {c : Int} (h : (ctlB s c).1 = false) : (ctlB s c).2 = (s, []) := by
  unfold ctlB at h ⊢
  repeat' split at h
  all_goals (repeat' split) <;> simp_all

set_option maxRecDepth 100000 in
set_option maxHeartbeats 1000000 in
theorem take_ctl (c : Int) (hc : 0 ≤ c ∧ c < 256) (hb : (ctlB s c).1 = true) (hok : s.ok) (hn : ts.length ≤ 100000) (h : SS lv w p s o ts) : Calls Tryd.prog 11 #[.pointer (some ⟨p, 0, none⟩), .int .u8 c, .pointer (some ⟨o, 0, none⟩)] w fun e w' => e = .returned (.tuple #[]) ∧ Took lv w p o ts (ctlB s c).2 w' := by
  have hcl : Calls Tryd.prog 22 #[.pointer (some ⟨p, 0, none⟩), .int .u8 c, .pointer (some ⟨o, 0, none⟩)] w fun e w' => e = .returned (.bool true) ∧ Took lv w p o ts (ctlB s c).2 w' := by rw [← hb]; exact control_SS c hc hok hn h
  have H := Lib.hid hb; clear hb
  go_enter Tryd.func11, Tryd.ntmps11
  go_wp2_with (first
    | (go_at_call 22; refine hcl.mono ?_; rintro e w1 ⟨rfl, ht⟩))
  refine bodyPost_ret (results_none rfl _ _ _) rfl ⟨rfl, ht⟩

/-- What control leaves where it leaves a byte to the phase. -/
theorem control_left (c : Int) (hc : 0 ≤ c ∧ c < 256) (hb : (ctlB s c).1 = false) (hok : s.ok) (hn : ts.length ≤ 100000) (h : SS lv w p s o ts) :
    Calls Tryd.prog 22 #[.pointer (some ⟨p, 0, none⟩), .int .u8 c, .pointer (some ⟨o, 0, none⟩)] w fun e w' => e = .returned (.bool false) ∧ ∃ lv', Stp lv w lv' w' ∧ SS lv' w' p s o ts := by
  rw [← hb]
  refine (control_SS c hc hok hn h).mono ?_
  rintro e w' ⟨rfl, lv1, hs1, hS1⟩
  rw [ctlB_false hb] at hS1
  exact ⟨rfl, lv1, hs1, by simpa using hS1⟩
theorem PMem.p0 {lv : List Nat} {w : World} {p : Nat} {s : PS} {iv dv av : Value} (h : PMem lv w p s iv dv av) {n : Int} (hp : s.phase = n) : w.cell? ⟨p, 0, none⟩ = some (.int .i64 n) := by
  rw [← hp]; exact cell_of_row h.blk 0 (.int .i64 s.phase) rfl

set_option maxRecDepth 100000 in
set_option maxHeartbeats 1000000 in
theorem take_0 (c : Int) (hc : 0 ≤ c ∧ c < 256) (hp : s.phase = 0) (hb : (ctlB s c).1 = false) (hok : s.ok) (hn : ts.length ≤ 100000) (h : SS lv w p s o ts) : Calls Tryd.prog 11 #[.pointer (some ⟨p, 0, none⟩), .int .u8 c, .pointer (some ⟨o, 0, none⟩)] w fun e w' => e = .returned (.tuple #[]) ∧ Took lv w p o ts (stepM s c) w' := by
  have hcl := control_left c hc hb hok hn h
  rw [show stepM s c = (s, [printT c]) by simp [stepM, hp]]
  have H := Lib.hid hb; clear hb
  have hidx : ∀ w, (Instr.index 65 (.agg stepFs) (.int .i64 0)).run Tryd.prog w = .ok (.func (.func 33) #[] #[]) w := fun _ => by kernel_rfl
  go_enter Tryd.func11, Tryd.ntmps11
  go_wp2_with (first
    | (go_at_call 22; refine hcl.mono ?_; rintro e w1 ⟨rfl, lv1, hs1, hS1⟩
       have hS1' := hS1
       obtain ⟨iv, dv, av, ov, qs, hS⟩ := hS1'
       have k0 := hS.pm.p0 hp))
  go_region_with (first
    | (go_at_call 23; refine (steps_walk _).mono ?_; rintro e w2 ⟨rfl, hg2⟩; have hS2 := hS.gr (((Gr.refl _).drew).trans hg2); have q0 := hS2.pm.p0 hp)
    | (go_at_call 33; refine (plain_SS c _ hn ⟨_, _, _, _, _, hS2⟩).mono ?_; rintro e w3 ⟨rfl, lv3, hs3, hS3⟩))
  all_goals
    go_wp2_with fail
    go_end0
    exact ⟨rfl, .of ((hs1.trans (.gr (((Gr.refl _).drew).trans hg2))).trans hs3) hS3⟩

set_option maxRecDepth 100000 in
set_option maxHeartbeats 1000000 in
theorem take_1 (c : Int) (hc : 0 ≤ c ∧ c < 256) (hp : s.phase = 1) (hb : (ctlB s c).1 = false) (hok : s.ok) (hn : ts.length ≤ 100000) (h : SS lv w p s o ts) (h127 : c % 128 ≠ 127) : Calls Tryd.prog 11 #[.pointer (some ⟨p, 0, none⟩), .int .u8 c, .pointer (some ⟨o, 0, none⟩)] w fun e w' => e = .returned (.tuple #[]) ∧ Took lv w p o ts (stepM s c) w' := by
  have hcl := control_left c hc hb hok hn h
  have hm := andNot128 c hc.1 hc.2
  obtain ⟨d, hd⟩ : ∃ d, d = c % 128 := ⟨_, rfl⟩
  rw [← hd] at hm h127
  have hd2 : 0 ≤ d ∧ d < 256 := by omega
  have hq : (d == 127) = false := by simpa using h127
  rw [show stepM s c = escapedM s d by simp [stepM, hp, ← hd, h127]]
  have H1 := Lib.hid hd; have H2 := Lib.hid h127; clear hd h127
  have H := Lib.hid hb; clear hb
  have hidx : ∀ w, (Instr.index 65 (.agg stepFs) (.int .i64 1)).run Tryd.prog w = .ok (.func (.func 34) #[] #[]) w := fun _ => by kernel_rfl
  go_enter Tryd.func11, Tryd.ntmps11
  go_wp2_with (first
    | (go_at_call 22; refine hcl.mono ?_; rintro e w1 ⟨rfl, lv1, hs1, hS1⟩
       have hS1' := hS1
       obtain ⟨iv, dv, av, ov, qs, hS⟩ := hS1'
       have k0 := hS.pm.p0 hp))
  go_region_with (first
    | (go_at_call 23; refine (steps_walk _).mono ?_; rintro e w2 ⟨rfl, hg2⟩; have hS2 := hS.gr (((Gr.refl _).drew).trans hg2); have q0 := hS2.pm.p0 hp)
    | (go_at_call 34; refine (escaped_SS d hd2 hok hn ⟨_, _, _, _, _, hS2⟩).mono ?_; rintro e w3 ⟨rfl, lv3, hs3, hS3⟩))
  all_goals
    go_wp2_with fail
    go_end0
    exact ⟨rfl, .of ((hs1.trans (.gr (((Gr.refl _).drew).trans hg2))).trans hs3) hS3⟩

set_option maxRecDepth 100000 in
set_option maxHeartbeats 1000000 in
theorem take_1x (c : Int) (hc : 0 ≤ c ∧ c < 256) (hp : s.phase = 1) (hb : (ctlB s c).1 = false) (hok : s.ok) (hn : ts.length ≤ 100000) (h : SS lv w p s o ts) (h127 : c % 128 = 127) : Calls Tryd.prog 11 #[.pointer (some ⟨p, 0, none⟩), .int .u8 c, .pointer (some ⟨o, 0, none⟩)] w fun e w' => e = .returned (.tuple #[]) ∧ Took lv w p o ts (stepM s c) w' := by
  have hcl := control_left c hc hb hok hn h
  have hm := andNot128 c hc.1 hc.2
  rw [show stepM s c = (s, []) by simp [stepM, hp, h127]]
  rw [h127] at hm
  have H := Lib.hid hb; clear hb h127
  go_enter Tryd.func11, Tryd.ntmps11
  go_wp2_with (first
    | (go_at_call 22; refine hcl.mono ?_; rintro e w1 ⟨rfl, lv1, hs1, hS1⟩
       have hS1' := hS1
       obtain ⟨iv, dv, av, ov, qs, hS⟩ := hS1'
       have k0 := hS.pm.p0 hp))
  refine bodyPost_ret (results_none rfl _ _ _) rfl ⟨rfl, .of0 hs1 hS1⟩

set_option maxRecDepth 100000 in
set_option maxHeartbeats 1000000 in
theorem take_2 (c : Int) (hc : 0 ≤ c ∧ c < 256) (hp : s.phase = 2) (hb : (ctlB s c).1 = false) (hok : s.ok) (hn : ts.length ≤ 100000) (h : SS lv w p s o ts) (h127 : c % 128 ≠ 127) : Calls Tryd.prog 11 #[.pointer (some ⟨p, 0, none⟩), .int .u8 c, .pointer (some ⟨o, 0, none⟩)] w fun e w' => e = .returned (.tuple #[]) ∧ Took lv w p o ts (stepM s c) w' := by
  have hcl := control_left c hc hb hok hn h
  have hm := andNot128 c hc.1 hc.2
  obtain ⟨d, hd⟩ : ∃ d, d = c % 128 := ⟨_, rfl⟩
  rw [← hd] at hm h127
  have hd2 : 0 ≤ d ∧ d < 256 := by omega
  have hq : (d == 127) = false := by simpa using h127
  rw [show stepM s c = headerM s d by simp [stepM, hp, ← hd, h127]]
  have H1 := Lib.hid hd; have H2 := Lib.hid h127; clear hd h127
  have H := Lib.hid hb; clear hb
  have hidx : ∀ w, (Instr.index 65 (.agg stepFs) (.int .i64 2)).run Tryd.prog w = .ok (.func (.func 35) #[] #[]) w := fun _ => by kernel_rfl
  go_enter Tryd.func11, Tryd.ntmps11
  go_wp2_with (first
    | (go_at_call 22; refine hcl.mono ?_; rintro e w1 ⟨rfl, lv1, hs1, hS1⟩
       have hS1' := hS1
       obtain ⟨iv, dv, av, ov, qs, hS⟩ := hS1'
       have k0 := hS.pm.p0 hp))
  go_region_with (first
    | (go_at_call 23; refine (steps_walk _).mono ?_; rintro e w2 ⟨rfl, hg2⟩; have hS2 := hS.gr (((Gr.refl _).drew).trans hg2); have q0 := hS2.pm.p0 hp)
    | (go_at_call 35; refine (header_SS d hd2 hok hn ⟨_, _, _, _, _, hS2⟩).mono ?_; rintro e w3 ⟨rfl, lv3, hs3, hS3⟩))
  all_goals
    go_wp2_with fail
    go_end0
    exact ⟨rfl, .of ((hs1.trans (.gr (((Gr.refl _).drew).trans hg2))).trans hs3) hS3⟩

set_option maxRecDepth 100000 in
set_option maxHeartbeats 1000000 in
theorem take_2x (c : Int) (hc : 0 ≤ c ∧ c < 256) (hp : s.phase = 2) (hb : (ctlB s c).1 = false) (hok : s.ok) (hn : ts.length ≤ 100000) (h : SS lv w p s o ts) (h127 : c % 128 = 127) : Calls Tryd.prog 11 #[.pointer (some ⟨p, 0, none⟩), .int .u8 c, .pointer (some ⟨o, 0, none⟩)] w fun e w' => e = .returned (.tuple #[]) ∧ Took lv w p o ts (stepM s c) w' := by
  have hcl := control_left c hc hb hok hn h
  have hm := andNot128 c hc.1 hc.2
  rw [show stepM s c = (s, []) by simp [stepM, hp, h127]]
  rw [h127] at hm
  have H := Lib.hid hb; clear hb h127
  go_enter Tryd.func11, Tryd.ntmps11
  go_wp2_with (first
    | (go_at_call 22; refine hcl.mono ?_; rintro e w1 ⟨rfl, lv1, hs1, hS1⟩
       have hS1' := hS1
       obtain ⟨iv, dv, av, ov, qs, hS⟩ := hS1'
       have k0 := hS.pm.p0 hp))
  refine bodyPost_ret (results_none rfl _ _ _) rfl ⟨rfl, .of0 hs1 hS1⟩

set_option maxRecDepth 100000 in
set_option maxHeartbeats 1000000 in
theorem take_3 (c : Int) (hc : 0 ≤ c ∧ c < 256) (hp : s.phase = 3) (hb : (ctlB s c).1 = false) (hok : s.ok) (hn : ts.length ≤ 100000) (h : SS lv w p s o ts) : Calls Tryd.prog 11 #[.pointer (some ⟨p, 0, none⟩), .int .u8 c, .pointer (some ⟨o, 0, none⟩)] w fun e w' => e = .returned (.tuple #[]) ∧ Took lv w p o ts (stepM s c) w' := by
  have hcl := control_left c hc hb hok hn h
  rw [show stepM s c = (textM s c, []) by simp [stepM, hp]]
  have H := Lib.hid hb; clear hb
  have hidx : ∀ w, (Instr.index 65 (.agg stepFs) (.int .i64 3)).run Tryd.prog w = .ok (.func (.func 36) #[] #[]) w := fun _ => by kernel_rfl
  go_enter Tryd.func11, Tryd.ntmps11
  go_wp2_with (first
    | (go_at_call 22; refine hcl.mono ?_; rintro e w1 ⟨rfl, lv1, hs1, hS1⟩
       have hS1' := hS1
       obtain ⟨iv, dv, av, ov, qs, hS⟩ := hS1'
       have k0 := hS.pm.p0 hp))
  go_region_with (first
    | (go_at_call 23; refine (steps_walk _).mono ?_; rintro e w2 ⟨rfl, hg2⟩; have hS2 := hS.gr (((Gr.refl _).drew).trans hg2); have q0 := hS2.pm.p0 hp)
    | (go_at_call 36; refine (text_SS c _ hok ⟨_, _, _, _, _, hS2⟩).mono ?_; rintro e w3 ⟨rfl, lv3, hs3, hS3⟩))
  all_goals
    go_wp2_with fail
    go_end0
    exact ⟨rfl, .of0 ((hs1.trans (.gr (((Gr.refl _).drew).trans hg2))).trans hs3) hS3⟩

end Go.Proofs.YtnnhaenmoifplaaDoor

namespace Go.Proofs.YtnnhaenmoifplaaDoor
set_option linter.unusedSimpArgs false
set_option linter.unusedVariables false
set_option linter.unusedSectionVars false
open Go.RowKit
variable [Bs]

variable {lv : List Nat} {w : World} {p o : Nat} {s : PS} {ts : List Tok}

theorem takeM1_ctl {c : Int} (hp : s.phase ≠ 4) : takeM1 s c = if (ctlB s c).1 = true then (ctlB s c).2 else stepM s c := by
  simp only [takeM1, ctlB]
  by_cases h27 : c = 27
  · by_cases h3 : s.phase = 3 <;> simp [h27, h3, hp]
  by_cases h24 : c = 24
  · simp [h24, hp]
  by_cases h26 : c = 26
  · simp [h26, hp]
  by_cases h32 : 32 ≤ c
  · simp [h27, h24, h26, h32, hp]
  by_cases h3 : s.phase = 3
  · by_cases h7 : c = 7 ∧ s.kind = 6
    · simp [h3, h7]
    · by_cases h8 : 8 ≤ c ∧ c ≤ 13 <;> simp [h27, h24, h26, h32, h3, h7, h8]
  · simp [h27, h24, h26, h32, h3, hp]
def endM (s : PS) (c : Int) : PS × List Tok := if c % 128 = 92 then (PS.init, emit s) else takeM1 (PS.begin_ 1 3) c
theorem take_SS1 (c : Int) (hc : 0 ≤ c ∧ c < 256) (hp : s.phase ≠ 4) (hok : s.ok) (hn : ts.length ≤ 100000) (h : SS lv w p s o ts) : Calls Tryd.prog 11 #[.pointer (some ⟨p, 0, none⟩), .int .u8 c, .pointer (some ⟨o, 0, none⟩)] w fun e w' => e = .returned (.tuple #[]) ∧ Took lv w p o ts (takeM1 s c) w' := by
  cases hb : (ctlB s c).1 with
  | true =>
    have e : takeM1 s c = (ctlB s c).2 := by rw [takeM1_ctl hp, if_pos hb]
    rw [e]
    exact take_ctl c hc hb hok hn h
  | false =>
    have e : takeM1 s c = stepM s c := by rw [takeM1_ctl hp, if_neg (by simp [hb])]
    rw [e]
    have := hok.phase
    rcases (by omega : s.phase = 0 ∨ s.phase = 1 ∨ s.phase = 2 ∨ s.phase = 3) with h0 | h1 | h2 | h3
    · exact take_0 c hc h0 hb hok hn h
    · by_cases h127 : c % 128 = 127
      · exact take_1x c hc h1 hb hok hn h h127
      · exact take_1 c hc h1 hb hok hn h h127
    · by_cases h127 : c % 128 = 127
      · exact take_2x c hc h2 hb hok hn h h127
      · exact take_2 c hc h2 hb hok hn h h127
    · exact take_3 c hc h3 hb hok hn h

set_option maxRecDepth 100000 in
set_option maxHeartbeats 1000000 in
theorem ending_SS (c : Int) (hc : 0 ≤ c ∧ c < 256) (hok : s.ok) (hn : ts.length ≤ 100000) (h : SS lv w p s o ts) : Calls Tryd.prog 37 #[.pointer (some ⟨p, 0, none⟩), .int .u8 c, .pointer (some ⟨o, 0, none⟩)] w fun e w' => e = .returned (.tuple #[]) ∧ Took lv w p o ts (endM s c) w' := by
  have hm := andNot128 c hc.1 hc.2
  by_cases h92 : c % 128 = 92
  · rw [show endM s c = (PS.init, emit s) by simp [endM, h92]]
    rw [h92] at hm
    clear h92
    go_enter Tryd.func37, Tryd.ntmps37
    go_wp2_with (first
      | (go_at_call 32; refine (done_SS hok hn h).mono ?_; rintro e w1 ⟨rfl, lv1, hs1, hS1⟩))
    refine bodyPost_ret (results_none rfl _ _ _) rfl ⟨rfl, .of hs1 hS1⟩
  · rw [show endM s c = takeM1 (PS.begin_ 1 3) c by simp [endM, h92]]
    obtain ⟨d, hd⟩ : ∃ d, d = c % 128 := ⟨_, rfl⟩
    rw [← hd] at hm h92
    have hq : (d == 92) = false := by simpa using h92
    clear h92
    have H := Lib.hid hd; clear hd
    go_enter Tryd.func37, Tryd.ntmps37
    go_wp2_with (first
      | (go_at_call 30; refine (begin_SS 1 3 h).mono ?_; rintro e w1 ⟨rfl, hs1, hS1⟩)
      | (go_at_call 11; refine (take_SS1 c hc (by simp [PS.begin_]) (ok_begin 1 3 (by omega) (by omega)) hn hS1).mono ?_; rintro e w2 ⟨rfl, lv2, hs2, hS2⟩))
    go_end0
    exact ⟨rfl, .of (hs1.trans hs2) hS2⟩

set_option maxRecDepth 100000 in
set_option maxHeartbeats 1000000 in
theorem take_4 (c : Int) (hc : 0 ≤ c ∧ c < 256) (hp : s.phase = 4) (hb : (ctlB s c).1 = false) (hok : s.ok) (hn : ts.length ≤ 100000) (h : SS lv w p s o ts) (h27 : c ≠ 27) : Calls Tryd.prog 11 #[.pointer (some ⟨p, 0, none⟩), .int .u8 c, .pointer (some ⟨o, 0, none⟩)] w fun e w' => e = .returned (.tuple #[]) ∧ Took lv w p o ts (takeM s c) w' := by
  have hcl := control_left c hc hb hok hn h
  rw [show takeM s c = endM s c by simp [takeM, endM, hp, h27]]
  have H := Lib.hid hb; clear hb
  have hidx : ∀ w, (Instr.index 65 (.agg stepFs) (.int .i64 4)).run Tryd.prog w = .ok (.func (.func 37) #[] #[]) w := fun _ => by kernel_rfl
  go_enter Tryd.func11, Tryd.ntmps11
  go_wp2_with (first
    | (go_at_call 22; refine hcl.mono ?_; rintro e w1 ⟨rfl, lv1, hs1, hS1⟩
       have hS1' := hS1
       obtain ⟨iv, dv, av, ov, qs, hS⟩ := hS1'
       have k0 := hS.pm.p0 hp))
  go_region_with (first
    | (go_at_call 23; refine (steps_walk _).mono ?_; rintro e w2 ⟨rfl, hg2⟩; have hS2 := hS.gr (((Gr.refl _).drew).trans hg2); have q0 := hS2.pm.p0 hp)
    | (go_at_call 37; refine (ending_SS c hc hok hn ⟨_, _, _, _, _, hS2⟩).mono ?_; rintro e w3 ⟨rfl, lv3, hs3, hS3⟩))
  all_goals
    go_wp2_with fail
    go_end0
    exact ⟨rfl, .of ((hs1.trans (.gr (((Gr.refl _).drew).trans hg2))).trans hs3) hS3⟩

theorem take_SS (c : Int) (hc : 0 ≤ c ∧ c < 256) (hok : s.ok) (hn : ts.length ≤ 100000) (h : SS lv w p s o ts) : Calls Tryd.prog 11 #[.pointer (some ⟨p, 0, none⟩), .int .u8 c, .pointer (some ⟨o, 0, none⟩)] w fun e w' => e = .returned (.tuple #[]) ∧ Took lv w p o ts (takeM s c) w' := by
  by_cases h4 : s.phase = 4
  · by_cases h27 : c = 27
    · subst h27
      have e : takeM s 27 = (ctlB s 27).2 := by simp [takeM, takeM1, ctlB, h4]
      rw [e]
      exact take_ctl 27 hc (by simp [ctlB, h4]) hok hn h
    · exact take_4 c hc h4 (by simp [ctlB, h4, h27]) hok hn h h27
  · rw [show takeM s c = takeM1 s c by simp [takeM, h4]]
    exact take_SS1 c hc h4 hok hn h
end Go.Proofs.YtnnhaenmoifplaaDoor

namespace Go.Proofs.YtnnhaenmoifplaaDoor
set_option linter.unusedSimpArgs false
set_option linter.unusedVariables false
set_option linter.unusedSectionVars false
open Go.RowKit
variable [Bs]

/-- A slice that reads as a list of cells. -/
def Rd (w : World) (a : Option Addr) (n : Nat) (xs : List Value) : Prop :=
  xs.length = n ∧ (n = 0 ∨ ∃ b off, a = some ⟨b, off, none⟩ ∧ ∀ i u, xs[i]? = some u → w.cell? ⟨b, off + i, none⟩ = some u)
/-- It lies in no block of a list. -/
def Out (lv : List Nat) (a : Option Addr) : Prop := ∀ x, a = some x → x.block ∉ lv
theorem Rd.at_ {w : World} {a : Option Addr} {n : Nat} {xs : List Value} (h : Rd w a n xs) {k : Nat} (hk : k < n) : ∃ b off u, a = some ⟨b, off, none⟩ ∧ xs[k]? = some u ∧ w.cell? ⟨b, off + k, none⟩ = some u ∧ b < w.heap.size := by
  rcases h.2 with h0 | ⟨b, off, rfl, hc⟩
  · omega
  · have hl : k < xs.length := by rw [h.1]; exact hk
    have := hc k _ (List.getElem?_eq_getElem hl)
    exact ⟨b, off, _, rfl, List.getElem?_eq_getElem hl, this, lt_of_cell this⟩
theorem Rd.upd {w w' : World} {lv : List Nat} {a : Option Addr} {n : Nat} {xs : List Value} (h : Rd w a n xs) (hu : Upd lv w w') (ho : Out lv a) : Rd w' a n xs := by
  refine ⟨h.1, ?_⟩
  rcases h.2 with h0 | ⟨b, off, rfl, hc⟩
  · exact .inl h0
  · refine .inr ⟨b, off, rfl, fun i u hi => ?_⟩
    have := hc i u hi
    rw [World.cell?_of_block (w' := w') (w := w) (hu.block b (lt_of_cell this) (ho _ rfl))]
    exact this

theorem takeM1_len (s : PS) (c : Int) : (takeM1 s c).2.length ≤ 1 := by
  have he : ∀ s : PS, (escapedM s c).2.length ≤ 1 ∧ (escapedM s (c % 128)).2.length ≤ 1 := by
    intro s
    constructor <;> (simp only [escapedM]; repeat' split) <;> first | exact emit_le _ | simp
  have hh : ∀ s : PS, (headerM s (c % 128)).2.length ≤ 1 := by
    intro s
    simp only [headerM]; repeat' split
    all_goals first | exact emit_le _ | simp
  have hs : (stepM s c).2.length ≤ 1 := by
    simp only [stepM]; repeat' split
    all_goals first | exact (he _).2 | exact hh _ | simp
  simp only [takeM1]; repeat' split
  all_goals first | exact hs | exact emit_le _ | simp
theorem takeM_len (s : PS) (c : Int) : (takeM s c).2.length ≤ 1 := by
  simp only [takeM]; repeat' split
  all_goals first | exact takeM1_len _ _ | exact emit_le _
theorem runM_len (l : List Int) : ∀ s : PS, (runM s l).2.length ≤ l.length := by
  induction l with
  | nil => simp [runM]
  | cons c l ih =>
    intro s
    have := ih (takeM s c).1
    have := takeM_len s c
    simp only [runM, List.length_append, List.length_cons]; omega
theorem runM_ok (l : List Int) : ∀ s : PS, s.ok → (∀ c ∈ l, 0 ≤ c ∧ c < 256) → (runM s l).1.ok := by
  induction l with
  | nil => intro s h _; exact h
  | cons c l ih =>
    intro s h hl
    exact ih _ (ok_take h c (hl c (by simp))) fun x hx => hl x (by simp [hx])
theorem plainOf_range (c : Int) (h : 0 ≤ c ∧ c < 256) : ∀ x ∈ plainOf c, 0 ≤ x ∧ x < 256 := by
  intro x hx
  unfold plainOf at hx
  split at hx
  · simp at hx
  · split at hx <;> (simp at hx; omega)
theorem plainL_range (l : List Int) (h : ∀ c ∈ l, 0 ≤ c ∧ c < 256) : ∀ x ∈ plainL l, 0 ≤ x ∧ x < 256 := by
  intro x hx
  obtain ⟨c, hc, hm⟩ := List.mem_flatMap.1 hx
  exact plainOf_range c (h c hc) x hm
theorem plainL_len (l : List Int) : (plainL l).length ≤ 2 * l.length := by
  induction l with
  | nil => simp [plainL]
  | cons c l ih =>
    have : (plainOf c).length ≤ 2 := by unfold plainOf; split; simp; split <;> simp
    simp only [plainL, List.flatMap_cons, List.length_append, List.length_cons] at ih ⊢; omega
theorem feedM_len (s : PS) (l : List Int) : (feedM s l).2.length ≤ 2 * l.length := Nat.le_trans (runM_len _ _) (plainL_len l)
theorem feedM_ok {s : PS} (h : s.ok) (l : List Int) (hl : ∀ c ∈ l, 0 ≤ c ∧ c < 256) : (feedM s l).1.ok := runM_ok _ _ h (plainL_range l hl)
theorem feedM_one (s : PS) (c : Int) : feedM s [c] = runM s (plainOf c) := by simp [feedM, plainL]

/-- A parser in memory. -/
def PP (lv : List Nat) (w : World) (p : Nat) (s : PS) : Prop := ∃ iv dv av, PMem lv w p s iv dv av
/-- Tokens in a row of their own, out of what may change. -/
structure Toks (lv : List Nat) (w : World) (ts : List Tok) (ov : Value) (qs : List (Value × Value)) : Prop where
  row : w.ownsRow Bs.b 34 6 ov ts.length (tsCells ts qs)
  len : qs.length = ts.length
  toks : ∀ (i : Nat) (t : Tok) (q : Value × Value), ts[i]? = some t → qs[i]? = some q → TMem lv w t q.1 q.2
  rOut : ∀ k, ov.ownBlock = some k → k ∉ lv

/-- How far a chunk is taken. -/
def Fed (lv : List Nat) (w : World) (p o : Nat) (s : PS) (l : List Int) (k : Nat) (wr : World) : Prop := ∃ lv', Stp lv w lv' wr ∧ SS lv' wr p (feedM s (l.take k)).1 o (feedM s (l.take k)).2
theorem feed_take {s : PS} {l : List Int} {k : Nat} {c : Int} (hc : l[k]? = some c) : feedM s (l.take (k + 1)) = ((runM (feedM s (l.take k)).1 (plainOf c)).1, (feedM s (l.take k)).2 ++ (runM (feedM s (l.take k)).1 (plainOf c)).2) := by
  rw [List.take_add_one, hc]
  simp only [Option.toList_some]
  rw [feed_append, feedM_one]
theorem Fed.skip {lv : List Nat} {w wr : World} {p o : Nat} {s : PS} {l : List Int} {k : Nat} {c : Int} (h : Fed lv w p o s l k wr) (hc : l[k]? = some c) (h0 : c = 0 ∨ c = 127) : Fed lv w p o s l (k + 1) wr := by
  obtain ⟨lv', hs, hS⟩ := h
  refine ⟨lv', hs, ?_⟩
  rw [feed_take hc, plainOf, if_pos h0]
  simpa [runM] using hS
theorem Fed.one {lv lv' : List Nat} {w wr w1 : World} {p o : Nat} {s : PS} {l : List Int} {k : Nat} {c : Int} (hs : Stp lv w lv' wr) (hc : l[k]? = some c) (h0 : ¬ (c = 0 ∨ c = 127)) (h1 : ¬ (128 ≤ c ∧ c < 160))
    (ht : Took lv' wr p o (feedM s (l.take k)).2 (takeM (feedM s (l.take k)).1 c) w1) : Fed lv w p o s l (k + 1) w1 := by
  obtain ⟨lv2, hs2, hS2⟩ := ht
  refine ⟨lv2, hs.trans hs2, ?_⟩
  rw [feed_take hc, plainOf, if_neg h0, if_neg h1]
  simpa [runM] using hS2
theorem Fed.two {lv lv' lv2 : List Nat} {w wr w1 w2 : World} {p o : Nat} {s : PS} {l : List Int} {k : Nat} {c : Int} (hs : Stp lv w lv' wr) (hc : l[k]? = some c) (h1 : 128 ≤ c ∧ c < 160)
    (hs2 : Stp lv' wr lv2 w1) (ht : Took lv2 w1 p o ((feedM s (l.take k)).2 ++ (takeM (feedM s (l.take k)).1 27).2) (takeM (takeM (feedM s (l.take k)).1 27).1 (c - 64)) w2) : Fed lv w p o s l (k + 1) w2 := by
  obtain ⟨lv3, hs3, hS3⟩ := ht
  refine ⟨lv3, (hs.trans hs2).trans hs3, ?_⟩
  rw [feed_take hc, plainOf, if_neg (by omega), if_pos h1]
  simpa [runM] using hS3

theorem Rd.byte {w : World} {a : Option Addr} {n : Nat} {l : List Int} (h : Rd w a n (bcells l)) {k : Nat} (hk : k < n) : ∃ b off c, a = some ⟨b, off, none⟩ ∧ l[k]? = some c ∧ w.cell? ⟨b, off + k, none⟩ = some (.int .u8 c) ∧ b < w.heap.size := by
  obtain ⟨b, off, u, ha, hu, hc, hb⟩ := h.at_ hk
  have : k < l.length := by have := h.1; simp [bcells] at this; omega
  simp [bcells, List.getElem?_eq_getElem this] at hu
  subst hu
  exact ⟨b, off, _, ha, List.getElem?_eq_getElem this, hc, hb⟩
theorem PP.start {lv : List Nat} {w : World} {p : Nat} {s : PS} (h : PP lv w p s) : SS (w.heap.size :: lv) (w.alloc (.cells #[.slice none 0 0] 45)) p s w.heap.size [] := by
  obtain ⟨iv, dv, av, h⟩ := h
  have hg := (Gr.refl w).alloc (.cells #[.slice none 0 0] 45)
  refine ⟨iv, dv, av, .slice none 0 0, [], ⟨⟨hg.blk h.blk, ownsRow_gr h.inters hg, ownsRow_gr h.data hg, ownsRow_gr h.done hg, by simp [h.pIn], fun k hk => by simp [h.iIn k hk], fun k hk => by simp [h.dIn k hk], fun k hk => by simp [h.aIn k hk], h.apart, Nat.le_trans h.bs hg.size⟩,
    ⟨heap_alloc_new w _, World.ownsRow_nil _ _ _ _, rfl, by simp, by simp, by simp [Value.ownBlock], Nat.le_trans h.bs hg.size⟩⟩⟩
/-- What may change once the tokens are handed out. -/
def lvO (lv : List Nat) (o : Nat) (ov : Value) : List Nat := lv.filter fun k => decide (k ≠ o) && decide (ov.ownBlock ≠ some k)
theorem mem_lvO {lv : List Nat} {o : Nat} {ov : Value} {k : Nat} : k ∈ lvO lv o ov ↔ k ∈ lv ∧ k ≠ o ∧ ov.ownBlock ≠ some k := by simp [lvO, List.mem_filter]
theorem Fed.fin {lv : List Nat} {w wr : World} {p : Nat} {s : PS} {l : List Int} {n : Nat} (hn : l.length ≤ n) (h : Fed (w.heap.size :: lv) (w.alloc (.cells #[.slice none 0 0] 45)) p w.heap.size s l n wr) :
    ∃ ov qs lv', wr.cell? ⟨w.heap.size, 0, none⟩ = some ov ∧ Stp lv w lv' wr ∧ PP lv' wr p (feedM s l).1 ∧ Toks lv' wr (feedM s l).2 ov qs ∧ ∀ k, ov.ownBlock = some k → k ∈ lv ∨ w.heap.size ≤ k := by
  obtain ⟨lv1, hs, iv, dv, av, ov, qs, hS⟩ := h
  have h1 : Stp lv w (w.heap.size :: lv) (w.alloc (.cells #[.slice none 0 0] 45)) := ⟨.of_gr ((Gr.refl w).alloc _), fun k hk => by
    rcases List.mem_cons.1 hk with rfl | hk
    · exact .inr (Nat.le_refl _)
    · exact .inl hk⟩
  rw [List.take_of_length_le hn] at hS
  refine ⟨ov, qs, lvO lv1 w.heap.size ov, (cells1 hS.om.blk).1, ?_, ⟨iv, dv, av, hS.pm.blk, hS.pm.inters, hS.pm.data, hS.pm.done, mem_lvO.2 ⟨hS.pm.pIn, hS.po, hS.rp⟩, fun k hk => mem_lvO.2 ⟨hS.pm.iIn k hk, ?_, ?_⟩, fun k hk => mem_lvO.2 ⟨hS.pm.dIn k hk, ?_, ?_⟩,
    fun k hk => mem_lvO.2 ⟨hS.pm.aIn k hk, ?_, ?_⟩, hS.pm.apart, hS.pm.bs⟩, ⟨hS.om.row, hS.om.len, fun i t q ht hq => (hS.om.toks i t q ht hq).sub fun k hk => (mem_lvO.1 hk).1, fun k hk hm => (mem_lvO.1 hm).2.2 hk⟩, fun k hk => (h1.trans hs).new k (hS.om.rIn k hk)⟩
  · have h2 := h1.trans hs
    exact ⟨h2.upd, fun k hk => h2.new k (mem_lvO.1 hk).1⟩
  · rintro rfl; exact hS.io hk
  · exact row_type hS.pm.inters hS.om.row (by decide) hk
  · rintro rfl; exact hS.do_ hk
  · exact row_type hS.pm.data hS.om.row (by decide) hk
  · rintro rfl; exact hS.ao hk
  · exact row_type hS.pm.done hS.om.row (by decide) hk

/-- .. and where the row of its tokens lies. -/
def FeedTo2 (lv : List Nat) (w : World) (p : Nat) (r : PS × List Tok) (e : Ending) (w' : World) : Prop := ∃ ov qs lv', e = .returned ov ∧ Stp lv w lv' w' ∧ PP lv' w' p r.1 ∧ Toks lv' w' r.2 ov qs ∧ ∀ k, ov.ownBlock = some k → k ∈ lv ∨ w.heap.size ≤ k
set_option maxRecDepth 100000 in
set_option maxHeartbeats 1000000 in
theorem feed_walk2 {lv : List Nat} {w : World} {p : Nat} {s : PS} {a : Option Addr} {n cap : Nat} {l : List Int} (hl : ∀ c ∈ l, 0 ≤ c ∧ c < 256) (hn : n ≤ 40000) (hr : Rd w a n (bcells l)) (ho : 0 < n → Out lv a) (hok : s.ok) (h : PP lv w p s) :
    Calls Tryd.prog 6 #[.pointer (some ⟨p, 0, none⟩), .slice a n cap] w (FeedTo2 lv w p (feedM s l)) := by
  have hln : l.length = n := by simpa [bcells] using hr.1
  go_enter Tryd.func6, Tryd.ntmps6
  go_wp2_with fail
  go_loopw [10] (fun i wr => ∃ k : Nat, k ≤ n ∧ i = .int .i64 k ∧ Fed (w.heap.size :: lv) (w.alloc (.cells #[.slice none 0 0] 45)) p w.heap.size s l k wr) (fun i _ => n - (intOf i).toNat)
  case atStart => exact ⟨0, Nat.zero_le _, rfl, w.heap.size :: lv, .refl _ _, by simpa [feedM, plainL, runM] using h.start⟩
  case round =>
    obtain ⟨k, hk, rfl, hF⟩ := hrel
    by_cases hlt : k < n
    · obtain ⟨lv', hs, hS⟩ := hF
      have hg0 : Gr w (w.alloc (.cells #[.slice none 0 0] 45)) := (Gr.refl w).alloc _
      have hu : Upd (w.heap.size :: lv) w wr := (Upd.of_gr hg0).trans1 hs.upd
      have hr' : Rd wr a n (bcells l) := hr.upd hu (fun x hx hm => by
        obtain ⟨b, off, c, ha, _, _, hb⟩ := hr.byte hlt
        rw [ha] at hx; injection hx with hx; subst hx
        rcases List.mem_cons.1 hm with e | hm
        · simp at e; omega
        · exact ho (by omega) _ ha hm)
      obtain ⟨b, off, c, rfl, hc, hcell, hb⟩ := hr'.byte hlt
      have hrange := hl c (List.mem_of_getElem? hc)
      obtain ⟨c0, c1⟩ := hrange
      have hok' : (feedM s (l.take k)).1.ok := feedM_ok hok _ fun x hx => hl x (List.mem_of_mem_take hx)
      have hlen : (feedM s (l.take k)).2.length ≤ 80000 := by
        have h1 := feedM_len s (l.take k)
        have h2 := List.length_take_le k l
        omega
      have hkn : (k : Int) < (n : Int) := by omega
      clear hu hr hr' ho hl hln hk
      by_cases h0 : c = 0 ∨ c = 127
      · have hF' : Fed (w.heap.size :: lv) (w.alloc (.cells #[.slice none 0 0] 45)) p w.heap.size s l (k + 1) wr := Fed.skip ⟨lv', hs, hS⟩ hc h0
        rcases h0 with rfl | rfl
        all_goals
          go_wp2_with fail
          go_roundw
          case rel => exact ⟨k + 1, by omega, by go_num, hF'⟩
          case measure => simp [intOf]; omega
      · have q0 : (c == 0) = false := by simp; omega
        have q127 : (c == 127) = false := by simp; omega
        by_cases h1 : 128 ≤ c ∧ c < 160
        · have h1a := decide_eq_true h1.1
          have h1b := decide_eq_true h1.2
          have ht1 := take_SS 27 (by omega) hok' (by omega) hS
          have hok2 := ok_take hok' 27 (by omega)
          have hlen2 := takeM_len (feedM s (l.take k)).1 27
          obtain ⟨h1c, h1d⟩ := h1
          have H0 := Lib.hid h0; clear h0
          go_wp2_with (first
            | (refine (take_SS (c - 64) (by omega) hok2 (by simp; omega) hS1).mono ?_; rintro e w2 ⟨rfl, hS2⟩)
            | (go_at_call 11; refine ht1.mono ?_; rintro e w1 ⟨rfl, lv1, hs1, hS1⟩))
          go_roundw
          case rel => exact ⟨k + 1, by omega, by go_num, .two hs hc ⟨h1c, h1d⟩ hs1 hS2⟩
          case measure => simp [intOf]; omega
        · have q1 : (decide (128 ≤ c) && decide (c < 160)) = false := by simp; omega
          have ht1 := take_SS c (by omega) hok' (by omega) hS
          have H0 := Lib.hid h0; clear h0
          have H1 := Lib.hid h1; clear h1
          cases h128 : decide (128 ≤ c)
          · go_wp2_with (first
              | (go_at_call 11; refine ht1.mono ?_; rintro e w1 ⟨rfl, hS1⟩))
            go_roundw
            case rel => exact ⟨k + 1, by omega, by go_num, .one hs hc H0.out H1.out hS1⟩
            case measure => simp [intOf]; omega
          · have h160 : decide (c < 160) = false := by simpa [h128] using q1
            go_wp2_with (first
              | (go_at_call 11; refine ht1.mono ?_; rintro e w1 ⟨rfl, hS1⟩))
            go_roundw
            case rel => exact ⟨k + 1, by omega, by go_num, .one hs hc H0.out H1.out hS1⟩
            case measure => simp [intOf]; omega
    · obtain ⟨ov, qs, lv', hcell, h1, h2, h3, h4⟩ := hF.fin (by omega)
      have H4 := Lib.hid h4; clear h4
      have hkn : ¬ (k : Int) < (n : Int) := by omega
      go_wp2_with fail
      go_ret
      exact ⟨ov, qs, lv', rfl, h1, h2, h3, H4.out⟩
/-- Where nothing is said of it the least block is the first. -/
instance zeroB : Bs := ⟨0⟩
end Go.Proofs.YtnnhaenmoifplaaDoor
