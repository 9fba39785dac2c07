/-
  The parser's method header, walked.
  The parser's method control, walked.
-/
import Derived.Test.YtjfffkaifcajbaaDoorZPbF
namespace Go.Proofs.YtjfffkaifcajbaaDoor
set_option linter.unusedSimpArgs false
set_option linter.unusedVariables false
set_option linter.unusedSectionVars false
open Go.RowKit
variable [Bs]

variable {lv : List Nat} {w : World} {p o : Nat} {s : PS} {ts : List Tok}

set_option maxRecDepth 100000 in
set_option maxHeartbeats 1000000 in
theorem header_last (c : Int) (hc : 64 ≤ c ∧ c < 256) (hok : s.ok) (hn : ts.length ≤ 100000) (h : SS lv w p s o ts) : Calls Tryd.prog 85 #[.pointer (some ⟨p, 0, none⟩), .int .u8 c, .pointer (some ⟨o, 0, none⟩)] w fun e w' => e = .returned (.tuple #[]) ∧ Took lv w p o ts (headerM s c) w' := by
  obtain ⟨hS1, hs1⟩ := h.set 11 (.bool false) { s with first := false } (fun _ _ _ => rfl) rfl rfl rfl
  obtain ⟨hS2, hs2⟩ := hS1.set 2 (.int .u8 c) { s with first := false, code := c } (fun _ _ _ => rfl) rfl rfl rfl
  obtain ⟨hS3, hs3⟩ := hS2.set 0 (.int .i64 3) { s with first := false, code := c, phase := 3 } (fun _ _ _ => rfl) rfl rfl rfl
  have hok2 := ok_code (ok_first hok false) c (by omega)
  obtain ⟨iv, dv, av, ov, qs, hS⟩ := h
  obtain ⟨k0, k1, k2, k3, k4, k5, k6, k7, k8, k9, k10, k11, k12, kf⟩ := cells13 hS.pm.blk
  obtain ⟨hc1, hc2⟩ := hc
  go_enter Tryd.func85, Tryd.ntmps85
  go_wp2_with (first
    | (go_at_call 82; refine (done_SS hok2 hn hS2).mono ?_; rintro e w1 ⟨rfl, lv1, hs4, hS4⟩))
  · refine bodyPost_ret (results_none rfl _ _ _) rfl ⟨rfl, ?_⟩
    have hk : s.kind = 4 := by simp_all
    have e : headerM s c = (PS.init, emit { s with first := false, code := c }) := by simp only [headerM]; rw [if_neg (by omega), if_pos hc1, if_pos hk]
    rw [e]; exact .of ((hs1.trans hs2).trans hs4) hS4
  · go_end0
    refine ⟨rfl, ?_⟩
    have hk : ¬ s.kind = 4 := by simp_all
    have e : headerM s c = ({ s with first := false, code := c, phase := 3 }, []) := by simp only [headerM]; rw [if_neg (by omega), if_pos hc1, if_neg hk]
    rw [e]; exact .of0 ((hs1.trans hs2).trans hs3) hS3
set_option maxRecDepth 100000 in
set_option maxHeartbeats 1000000 in
theorem header_few (c : Int) (hc : 0 ≤ c ∧ c < 48) (hok : s.ok) (h : SS lv w p s o ts) : Calls Tryd.prog 85 #[.pointer (some ⟨p, 0, none⟩), .int .u8 c, .pointer (some ⟨o, 0, none⟩)] w fun e w' => e = .returned (.tuple #[]) ∧ Took lv w p o ts (headerM s c) w' := by
  obtain ⟨hS1, hs1⟩ := h.set 11 (.bool false) { s with first := false } (fun _ _ _ => rfl) rfl rfl rfl
  have hok1 := ok_first hok false
  obtain ⟨iv, dv, av, ov, qs, hS⟩ := h
  obtain ⟨k0, k1, k2, k3, k4, k5, k6, k7, k8, k9, k10, k11, k12, kf⟩ := cells13 hS.pm.blk
  obtain ⟨hc1, hc2⟩ := hc
  go_enter Tryd.func85, Tryd.ntmps85
  go_wp2_with (first
    | (go_at_call 93; refine (inter_SS c hok1 hS1).mono ?_; rintro e w1 ⟨rfl, lv1, hs4, hS4⟩))
  go_end0
  refine ⟨rfl, ?_⟩
  have e : headerM s c = (interM { s with first := false } c, []) := by simp only [headerM]; rw [if_pos hc2]
  rw [e]; exact .of0 (hs1.trans hs4) hS4
set_option maxRecDepth 100000 in
set_option maxHeartbeats 1000000 in
theorem header_mark (c : Int) (hc : 60 ≤ c ∧ c < 64) (hf : s.first = true) (h : SS lv w p s o ts) : Calls Tryd.prog 85 #[.pointer (some ⟨p, 0, none⟩), .int .u8 c, .pointer (some ⟨o, 0, none⟩)] w fun e w' => e = .returned (.tuple #[]) ∧ Took lv w p o ts (headerM s c) w' := by
  obtain ⟨hS1, hs1⟩ := h.set 11 (.bool false) { s with first := false } (fun _ _ _ => rfl) rfl rfl rfl
  obtain ⟨hS2, hs2⟩ := hS1.set 3 (.int .u8 c) { s with first := false, mark := c } (fun _ _ _ => rfl) rfl rfl rfl
  obtain ⟨iv, dv, av, ov, qs, hS⟩ := h
  obtain ⟨k0, k1, k2, k3, k4, k5, k6, k7, k8, k9, k10, k11, k12, kf⟩ := cells13 hS.pm.blk
  obtain ⟨hc1, hc2⟩ := hc
  have hc3 := decide_eq_true hc1
  rw [hf] at k11
  go_enter Tryd.func85, Tryd.ntmps85
  go_wp2_with fail
  go_end0
  refine ⟨rfl, ?_⟩
  have e : headerM s c = ({ s with first := false, mark := c }, []) := by simp only [headerM]; rw [if_neg (by omega), if_neg (by omega), if_pos ⟨hc1, hf⟩]
  rw [e]; exact .of0 (hs1.trans hs2) hS2
set_option maxRecDepth 100000 in
set_option maxHeartbeats 1000000 in
theorem header_void (c : Int) (hc : 48 ≤ c ∧ c < 64) (hf : ¬ (60 ≤ c ∧ s.first = true)) (hv : 0 < s.inters.length ∨ s.void = true) (h : SS lv w p s o ts) : Calls Tryd.prog 85 #[.pointer (some ⟨p, 0, none⟩), .int .u8 c, .pointer (some ⟨o, 0, none⟩)] w fun e w' => e = .returned (.tuple #[]) ∧ Took lv w p o ts (headerM s c) w' := by
  obtain ⟨hS1, hs1⟩ := h.set 11 (.bool false) { s with first := false } (fun _ _ _ => rfl) rfl rfl rfl
  obtain ⟨hS2, hs2⟩ := hS1.set 12 (.bool true) { s with first := false, void := true } (fun _ _ _ => rfl) rfl rfl rfl
  have e : headerM s c = ({ s with first := false, void := true }, []) := by
    simp only [headerM]
    rw [if_neg (by omega), if_neg (by omega), if_neg hf, if_pos]
    rcases hv with hv | hv
    · exact .inl (by intro e; simp [e] at hv)
    · exact .inr (.inl hv)
  rw [e]
  have E := Lib.hid e; clear e
  obtain ⟨iv, dv, av, ov, qs, hS⟩ := h
  obtain ⟨k0, k1, k2, k3, k4, k5, k6, k7, k8, k9, k10, k11, k12, kf⟩ := cells13 hS.pm.blk
  obtain ⟨ia, ic, rfl⟩ := row_form hS.pm.inters
  obtain ⟨hc1, hc2⟩ := hc
  by_cases hi : 0 < s.inters.length <;> by_cases h60 : 60 ≤ c
  all_goals
    try have hv : s.void = true := by simp_all
    try have hf' : s.first = false := by simp_all
    clear hf
    have H := Lib.hid hv; clear hv
    try have H2 := Lib.hid hf'
    try rw [H.out] at k12
    try rw [H2.out] at k11
    try clear hf'
    go_enter Tryd.func85, Tryd.ntmps85
    go_wp2_with fail
    go_end0
    exact ⟨rfl, .of0 (hs1.trans hs2) hS2⟩

set_option maxRecDepth 100000 in
set_option maxHeartbeats 1000000 in
theorem header_acc (c : Int) (hc : 48 ≤ c ∧ c < 64) (hf : ¬ (60 ≤ c ∧ s.first = true)) (hi : s.inters = []) (hv : s.void = false) (hok : s.ok) (h : SS lv w p s o ts) : Calls Tryd.prog 85 #[.pointer (some ⟨p, 0, none⟩), .int .u8 c, .pointer (some ⟨o, 0, none⟩)] w fun e w' => e = .returned (.tuple #[]) ∧ Took lv w p o ts (headerM s c) w' := by
  obtain ⟨hS1, hs1⟩ := h.set 11 (.bool false) { s with first := false } (fun _ _ _ => rfl) rfl rfl rfl
  have hok1 := ok_first hok false
  have e : headerM s c = if isAcc c = false then ({ s with first := false, void := true }, []) else (accByte { s with first := false } c, []) := by
    simp only [headerM]
    rw [if_neg (by omega), if_neg (by omega), if_neg hf]
    simp [hi, hv]
  rw [e]
  have E := Lib.hid e; clear e
  obtain ⟨iv, dv, av, ov, qs, hS⟩ := h
  obtain ⟨k0, k1, k2, k3, k4, k5, k6, k7, k8, k9, k10, k11, k12, kf⟩ := cells13 hS.pm.blk
  obtain ⟨ia, ic, rfl⟩ := row_form hS.pm.inters
  have hi0 : s.inters.length = 0 := by simp [hi]
  rw [hi0] at k7
  rw [hv] at k12
  have H := Lib.hid hv; clear hv
  have H1 := Lib.hid hi; clear hi
  have H2 := Lib.hid hi0; clear hi0
  obtain ⟨hc1, hc2⟩ := hc
  have hB := accByte_SS c (by omega) (by omega) hok1 hS1
  cases hA : isAcc c <;> by_cases h60 : 60 ≤ c
  all_goals
    try have hf' : s.first = false := by simp_all
    clear hf
    rw [hA] at hB
    have H3 := Lib.hid hA; clear hA
    try have H4 := Lib.hid hf'
    try rw [H4.out] at k11
    try clear hf'
    go_enter Tryd.func85, Tryd.ntmps85
    go_wp2_with (first
      | (go_at_call 94; refine hB.mono ?_; rintro e w1 ⟨rfl, lv1, hs4, hS4⟩
         have hS4' := hS4
         obtain ⟨iv1, dv1, av1, ov1, qs1, hS5⟩ := hS4'
         obtain ⟨q0, q1, q2, q3, q4, q5, q6, q7, q8, q9, q10, q11, q12, qf⟩ := cells13 hS5.pm.blk))
    go_end0
    refine ⟨rfl, ?_⟩
    first
      | (have e : accS { s with first := false } c = { s with first := false } := by simp [accS, H3.out]
         rw [e] at hS4
         obtain ⟨hS6, hs6⟩ := hS4.set 12 (.bool true) { s with first := false, void := true } (fun _ _ _ => rfl) rfl rfl rfl
         exact .of0 ((hs1.trans hs4).trans hs6) hS6)
      | (have e : accS { s with first := false } c = accByte { s with first := false } c := by simp [accS, H3.out]
         rw [e] at hS4
         exact .of0 (hs1.trans hs4) hS4)

theorem header_SS (c : Int) (hc : 0 ≤ c ∧ c < 256) (hok : s.ok) (hn : ts.length ≤ 100000) (h : SS lv w p s o ts) : Calls Tryd.prog 85 #[.pointer (some ⟨p, 0, none⟩), .int .u8 c, .pointer (some ⟨o, 0, none⟩)] w fun e w' => e = .returned (.tuple #[]) ∧ Took lv w p o ts (headerM s c) w' := by
  by_cases h1 : 64 ≤ c
  · exact header_last c ⟨h1, hc.2⟩ hok hn h
  by_cases h2 : c < 48
  · exact header_few c ⟨hc.1, h2⟩ hok h
  by_cases h3 : 60 ≤ c ∧ s.first = true
  · exact header_mark c ⟨h3.1, by omega⟩ h3.2 h
  by_cases h4 : 0 < s.inters.length
  · exact header_void c ⟨by omega, by omega⟩ h3 (.inl h4) h
  cases h5 : s.void with
  | true => exact header_void c ⟨by omega, by omega⟩ h3 (.inr h5) h
  | false => exact header_acc c ⟨by omega, by omega⟩ h3 (List.eq_nil_of_length_eq_zero (by omega)) h5 hok h
end Go.Proofs.YtjfffkaifcajbaaDoor

namespace Go.Proofs.YtjfffkaifcajbaaDoor
set_option linter.unusedSimpArgs false
set_option linter.unusedVariables false
set_option linter.unusedSectionVars false
open Go.RowKit
variable [Bs]

variable {lv : List Nat} {w : World} {p o : Nat} {s : PS} {ts : List Tok}

/-- Does a byte mean the same everywhere, and what is left of it? -/
def ctlB (s : PS) (c : Int) : Bool × (PS × List Tok) :=
  if s.phase = 4 ∧ c ≠ 27 then (false, (s, []))
  else if c = 27 then (if s.phase = 3 then (true, ({ s with phase := 4 }, [])) else (true, (PS.begin_ 1 3, [])))
  else if c = 24 then (true, (PS.init, []))
  else if c = 26 then (true, (PS.init, [ctrlT 26]))
  else if 32 ≤ c then (false, (s, []))
  else if s.phase ≠ 3 then (true, (s, [ctrlT c]))
  else if c = 7 ∧ s.kind = 6 then (true, (PS.init, emit s))
  else if 8 ≤ c ∧ c ≤ 13 then (false, (s, []))
  else (true, (s, []))

def Ctl (lv : List Nat) (w : World) (p o : Nat) (ts : List Tok) (q : Bool × (PS × List Tok)) (e : Ending) (w' : World) : Prop := e = .returned (.bool q.1) ∧ Took lv w p o ts q.2 w'

/-- A control is said. -/
theorem St.ctrl {iv dv av ov V : Value} {qs : List (Value × Value)} {w1 : World} {g : Nat} (c : Int) (h : St lv w p s iv dv av o ts ov qs) (hG : Grew (w.alloc (.cells (tcells (ctrlT c) (.slice none 0 0, .slice none 0 0)).toArray 50)) w1 ov V g)
    (hown : w1.ownsRow Bs.b 50 6 V (ts.length + 1) (tsCells ts qs ++ tcells (ctrlT c) (.slice none 0 0, .slice none 0 0))) : Took lv w p o ts (s, [ctrlT c]) (w1.setCell ⟨o, 0, none⟩ V) := by
  have hW := (Gr.refl w).alloc (.cells (tcells (ctrlT c) (.slice none 0 0, .slice none 0 0)).toArray 50)
  have ht : TMem lv (w.alloc (.cells (tcells (ctrlT c) (.slice none 0 0, .slice none 0 0)).toArray 50)) (ctrlT c) (.slice none 0 0) (.slice none 0 0) :=
    ⟨.nil _ _, .nil _ _, by simp [Value.ownBlock], by simp [Value.ownBlock], by simp [Value.ownBlock], by simp [Value.ownBlock]⟩
  obtain ⟨h5, hs5⟩ := (h.gr hW).pushO (q := (.slice none 0 0, .slice none 0 0)) ht hG hown
  exact .of ((Stp.gr hW).trans hs5) ⟨_, _, _, _, _, h5⟩

set_option maxRecDepth 100000 in
set_option maxHeartbeats 1000000 in
theorem control_end (c : Int) (hp : s.phase = 4) (hc : c ≠ 27) (h : SS lv w p s o ts) : Calls Tryd.prog 69 #[.pointer (some ⟨p, 0, none⟩), .int .u8 c, .pointer (some ⟨o, 0, none⟩)] w (Ctl lv w p o ts (ctlB s c)) := by
  have e : ctlB s c = (false, (s, [])) := by simp [ctlB, hp, hc]
  rw [e]; clear e
  have hh := h
  obtain ⟨iv, dv, av, ov, qs, hS⟩ := h
  obtain ⟨k0, k1, k2, k3, k4, k5, k6, k7, k8, k9, k10, k11, k12, kf⟩ := cells13 hS.pm.blk
  rw [hp] at k0
  have h1 : (c != 27) = true := by simpa using hc
  clear hp hc
  go_enter Tryd.func69, Tryd.ntmps69
  go_wp2_with fail
  go_ret
  exact ⟨rfl, .of0 (.refl _ _) hh⟩

set_option maxRecDepth 100000 in
set_option maxHeartbeats 1000000 in
theorem control_esc (h : SS lv w p s o ts) : Calls Tryd.prog 69 #[.pointer (some ⟨p, 0, none⟩), .int .u8 27, .pointer (some ⟨o, 0, none⟩)] w (Ctl lv w p o ts (ctlB s 27)) := by
  have hh := h
  obtain ⟨hS1, hs1⟩ := h.set 0 (.int .i64 4) { s with phase := 4 } (fun _ _ _ => rfl) rfl rfl rfl
  obtain ⟨iv, dv, av, ov, qs, hS⟩ := h
  obtain ⟨k0, k1, k2, k3, k4, k5, k6, k7, k8, k9, k10, k11, k12, kf⟩ := cells13 hS.pm.blk
  have hb := begin_SS 1 3 hh
  by_cases h3 : s.phase = 3
  · rw [show ctlB s 27 = (true, ({ s with phase := 4 }, [])) by simp [ctlB, h3]]
    rw [h3] at k0
    clear h3
    go_enter Tryd.func69, Tryd.ntmps69
    go_wp2_with fail
    go_ret
    exact ⟨rfl, .of0 hs1 hS1⟩
  rw [show ctlB s 27 = (true, (PS.begin_ 1 3, [])) by simp [ctlB, h3]]
  by_cases h4 : s.phase = 4
  · rw [h4] at k0
    clear h3
    clear h4
    go_enter Tryd.func69, Tryd.ntmps69
    go_wp2_with (first
      | (go_at_call 80; refine hb.mono ?_; rintro e w1 ⟨rfl, hs2, hS2⟩))
    go_ret
    exact ⟨rfl, .of0 hs2 hS2⟩
  · have q3 : (s.phase == 3) = false := by simpa using h3
    have q4 : (s.phase == 4) = false := by simpa using h4
    clear h3 h4
    go_enter Tryd.func69, Tryd.ntmps69
    go_wp2_with (first
      | (go_at_call 80; refine hb.mono ?_; rintro e w1 ⟨rfl, hs2, hS2⟩))
    go_ret
    exact ⟨rfl, .of0 hs2 hS2⟩

set_option maxRecDepth 100000 in
set_option maxHeartbeats 1000000 in
theorem control_can (hp : s.phase ≠ 4) (h : SS lv w p s o ts) : Calls Tryd.prog 69 #[.pointer (some ⟨p, 0, none⟩), .int .u8 24, .pointer (some ⟨o, 0, none⟩)] w (Ctl lv w p o ts (ctlB s 24)) := by
  have e : ctlB s 24 = (true, (PS.init, [])) := by simp [ctlB, hp]
  rw [e]; clear e
  have hh := h
  obtain ⟨iv, dv, av, ov, qs, hS⟩ := h
  obtain ⟨k0, k1, k2, k3, k4, k5, k6, k7, k8, k9, k10, k11, k12, kf⟩ := cells13 hS.pm.blk
  have hb := reset_SS hh
  have q4 : (s.phase == 4) = false := by simpa using hp
  clear hp
  go_enter Tryd.func69, Tryd.ntmps69
  go_wp2_with (first
    | (go_at_call 81; refine hb.mono ?_; rintro e w1 ⟨rfl, hs2, hS2⟩))
  go_ret
  exact ⟨rfl, .of0 hs2 hS2⟩

set_option maxRecDepth 100000 in
set_option maxHeartbeats 1000000 in
theorem control_sub (hp : s.phase ≠ 4) (hn : ts.length ≤ 100000) (h : SS lv w p s o ts) : Calls Tryd.prog 69 #[.pointer (some ⟨p, 0, none⟩), .int .u8 26, .pointer (some ⟨o, 0, none⟩)] w (Ctl lv w p o ts (ctlB s 26)) := by
  have e : ctlB s 26 = (true, (PS.init, [ctrlT 26])) := by simp [ctlB, hp]
  rw [e]; clear e
  have hh := h
  obtain ⟨iv, dv, av, ov, qs, hS⟩ := h
  obtain ⟨k0, k1, k2, k3, k4, k5, k6, k7, k8, k9, k10, k11, k12, kf⟩ := cells13 hS.pm.blk
  have hb := reset_SS hh
  have q4 : (s.phase == 4) = false := by simpa using hp
  clear hp
  go_enter Tryd.func69, Tryd.ntmps69
  go_wp2_with (first
    | (go_at_call 81; refine hb.mono ?_; rintro e w1 ⟨rfl, hs2, iv1, dv1, av1, ov1, qs1, hS2⟩; obtain ⟨oa, oc, rfl⟩ := row_form hS2.om.row; obtain ⟨r0, rf⟩ := cells1 hS2.om.blk)
    | (refine wpList_pushO rfl _ _ _ rfl Tryd.underlying47 (hS2.gr ((Gr.refl _).alloc _)) (ctrlT 26) (.slice none 0 0, .slice none 0 0) _ rfl rfl (heap_alloc_new _ _) ⟨rfl, rfl⟩ hn ?_
       intro g cap w2 hG hown hb1
       obtain ⟨r0, rf⟩ := cells1 hb1))
  go_ret
  refine ⟨rfl, ?_⟩
  obtain ⟨lv3, hs3, hS3⟩ := hS2.ctrl 26 hG hown
  exact ⟨lv3, hs2.trans hs3, hS3⟩

set_option maxRecDepth 100000 in
set_option maxHeartbeats 1000000 in
theorem control_no (c : Int) (hp : s.phase ≠ 4) (hc : 32 ≤ c ∨ (s.phase = 3 ∧ 8 ≤ c ∧ c ≤ 13)) (h : SS lv w p s o ts) : Calls Tryd.prog 69 #[.pointer (some ⟨p, 0, none⟩), .int .u8 c, .pointer (some ⟨o, 0, none⟩)] w (Ctl lv w p o ts (ctlB s c)) := by
  have e : ctlB s c = (false, (s, [])) := by
    simp only [ctlB]
    rw [if_neg (fun h => hp h.1), if_neg (by omega), if_neg (by omega), if_neg (by omega)]
    split
    · rfl
    · rcases hc with hc | ⟨h1, h2, h3⟩
      · contradiction
      · rw [if_neg (by simpa using h1), if_neg (by omega), if_pos ⟨h2, h3⟩]
  rw [e]; clear e
  have hh := h
  obtain ⟨iv, dv, av, ov, qs, hS⟩ := h
  obtain ⟨k0, k1, k2, k3, k4, k5, k6, k7, k8, k9, k10, k11, k12, kf⟩ := cells13 hS.pm.blk
  have q4 : (s.phase == 4) = false := by simpa using hp
  have c27 : (c == 27) = false := by simp; omega
  have c24 : (c == 24) = false := by simp; omega
  have c26 : (c == 26) = false := by simp; omega
  have c7 : (c == 7) = false := by simp; omega
  clear hp
  rcases hc with hc | ⟨h1, h2, h3⟩
  · go_enter Tryd.func69, Tryd.ntmps69
    go_wp2_with fail
    go_ret
    exact ⟨rfl, .of0 (.refl _ _) hh⟩
  · rw [h1] at k0
    clear q4 h1
    have h4 : c < 32 := by omega
    have h5 := decide_eq_true h2
    go_enter Tryd.func69, Tryd.ntmps69
    go_wp2_with fail
    go_ret
    exact ⟨rfl, .of0 (.refl _ _) hh⟩

set_option maxRecDepth 100000 in
set_option maxHeartbeats 1000000 in
theorem control_out (c : Int) (hp : s.phase ≠ 4) (hp3 : s.phase ≠ 3) (hc : 0 ≤ c ∧ c < 32 ∧ c ≠ 24 ∧ c ≠ 26 ∧ c ≠ 27) (hn : ts.length ≤ 100000) (h : SS lv w p s o ts) : Calls Tryd.prog 69 #[.pointer (some ⟨p, 0, none⟩), .int .u8 c, .pointer (some ⟨o, 0, none⟩)] w (Ctl lv w p o ts (ctlB s c)) := by
  have e : ctlB s c = (true, (s, [ctrlT c])) := by
    simp only [ctlB]
    rw [if_neg (fun h => hp h.1), if_neg (by omega), if_neg (by omega), if_neg (by omega), if_neg (by omega), if_pos hp3]
  rw [e]; clear e
  obtain ⟨iv, dv, av, ov, qs, hS⟩ := h
  obtain ⟨k0, k1, k2, k3, k4, k5, k6, k7, k8, k9, k10, k11, k12, kf⟩ := cells13 hS.pm.blk
  obtain ⟨oa, oc, rfl⟩ := row_form hS.om.row
  obtain ⟨r0, rf⟩ := cells1 hS.om.blk
  have q4 : (s.phase == 4) = false := by simpa using hp
  have q3 : (s.phase == 3) = false := by simpa using hp3
  have c27 : (c == 27) = false := by simp; omega
  have c24 : (c == 24) = false := by simp; omega
  have c26 : (c == 26) = false := by simp; omega
  obtain ⟨hc0, hc1, _⟩ := hc
  clear hp hp3
  go_enter Tryd.func69, Tryd.ntmps69
  go_wp2_with (first
    | (refine wpList_pushO rfl _ _ _ rfl Tryd.underlying47 (hS.gr ((Gr.refl _).alloc _)) (ctrlT c) (.slice none 0 0, .slice none 0 0) _ rfl rfl (heap_alloc_new _ _) ⟨rfl, rfl⟩ hn ?_
       intro g cap w2 hG hown hb1
       obtain ⟨r0, rf⟩ := cells1 hb1))
  go_ret
  exact ⟨rfl, hS.ctrl c hG hown⟩

set_option maxRecDepth 100000 in
set_option maxHeartbeats 1000000 in
theorem control_str (c : Int) (hp3 : s.phase = 3) (hc : 0 ≤ c ∧ c < 32 ∧ c ≠ 24 ∧ c ≠ 26 ∧ c ≠ 27) (hc2 : c < 8 ∨ 13 < c) (hok : s.ok) (hn : ts.length ≤ 100000) (h : SS lv w p s o ts) : Calls Tryd.prog 69 #[.pointer (some ⟨p, 0, none⟩), .int .u8 c, .pointer (some ⟨o, 0, none⟩)] w (Ctl lv w p o ts (ctlB s c)) := by
  have e : ctlB s c = if c = 7 ∧ s.kind = 6 then (true, (PS.init, emit s)) else (true, (s, [])) := by
    simp only [ctlB]
    rw [if_neg (fun h => by omega), if_neg (by omega), if_neg (by omega), if_neg (by omega), if_neg (by omega), if_neg (by simpa using hp3)]
    split
    · rfl
    · rw [if_neg (by omega)]
  rw [e]; clear e
  have hh := h
  have hd := done_SS hok hn h
  obtain ⟨iv, dv, av, ov, qs, hS⟩ := h
  obtain ⟨k0, k1, k2, k3, k4, k5, k6, k7, k8, k9, k10, k11, k12, kf⟩ := cells13 hS.pm.blk
  rw [hp3] at k0
  have c27 : (c == 27) = false := by simp; omega
  have c24 : (c == 24) = false := by simp; omega
  have c26 : (c == 26) = false := by simp; omega
  obtain ⟨hc0, hc1, _⟩ := hc
  clear hp3
  by_cases h7 : c = 7
  · subst h7
    clear hc2 c27 c24 c26 hc0 hc1
    by_cases h6 : s.kind = 6
    · rw [h6] at k1
      rw [if_pos ⟨rfl, h6⟩]
      clear h6
      go_enter Tryd.func69, Tryd.ntmps69
      go_wp2_with (first
        | (go_at_call 82; refine hd.mono ?_; rintro e w1 ⟨rfl, lv1, hs1, hS1⟩))
      go_ret
      exact ⟨rfl, .of hs1 hS1⟩
    · have q6 : (s.kind == 6) = false := by simpa using h6
      rw [if_neg (fun h => h6 h.2)]
      clear h6
      go_enter Tryd.func69, Tryd.ntmps69
      go_wp2_with fail
      go_ret
      exact ⟨rfl, .of0 (.refl _ _) hh⟩
  · have c7 : (c == 7) = false := by simpa using h7
    rw [if_neg (fun h => h7 h.1)]
    clear h7
    rcases hc2 with h8 | h8
    · have h9 : decide (8 ≤ c) = false := by simp; omega
      go_enter Tryd.func69, Tryd.ntmps69
      go_wp2_with fail
      go_ret
      exact ⟨rfl, .of0 (.refl _ _) hh⟩
    · have h9 : decide (8 ≤ c) = true := by simp; omega
      go_enter Tryd.func69, Tryd.ntmps69
      go_wp2_with fail
      go_ret
      exact ⟨rfl, .of0 (.refl _ _) hh⟩

theorem control_SS (c : Int) (hc : 0 ≤ c ∧ c < 256) (hok : s.ok) (hn : ts.length ≤ 100000) (h : SS lv w p s o ts) : Calls Tryd.prog 69 #[.pointer (some ⟨p, 0, none⟩), .int .u8 c, .pointer (some ⟨o, 0, none⟩)] w (Ctl lv w p o ts (ctlB s c)) := by
  by_cases h27 : c = 27
  · subst h27; exact control_esc h
  by_cases h4 : s.phase = 4
  · exact control_end c h4 h27 h
  by_cases h24 : c = 24
  · subst h24; exact control_can h4 h
  by_cases h26 : c = 26
  · subst h26; exact control_sub h4 hn h
  by_cases h32 : 32 ≤ c
  · exact control_no c h4 (.inl h32) h
  by_cases h3 : s.phase = 3
  · by_cases h8 : 8 ≤ c ∧ c ≤ 13
    · exact control_no c h4 (.inr ⟨h3, h8.1, h8.2⟩) h
    · exact control_str c h3 ⟨hc.1, by omega, h24, h26, h27⟩ (by omega) hok hn h
  · exact control_out c h4 h3 ⟨hc.1, by omega, h24, h26, h27⟩ hn h
end Go.Proofs.YtjfffkaifcajbaaDoor
