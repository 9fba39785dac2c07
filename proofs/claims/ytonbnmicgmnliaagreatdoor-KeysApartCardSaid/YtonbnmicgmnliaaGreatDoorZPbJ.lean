/-
  The parser takes a byte, walked.
-/
import Derived.Test.YtonbnmicgmnliaaGreatDoorZPbI
namespace Go.Proofs.YtonbnmicgmnliaaGreatDoor
set_option linter.unusedSimpArgs false
set_option linter.unusedVariables false
set_option linter.unusedSectionVars false
open Go.RowKit
variable [Bs]

variable {lv : List Nat} {w : World} {p o : Nat} {s : PS} {ts : List Tok}

theorem takeM1_ctl {c : Int} (hp : s.phase ≠ 4) : takeM1 s c = if (ctlB s c).1 = true then (ctlB s c).2 else stepM s c := by
  simp only [takeM1, ctlB]
  by_cases h27 : c = 27
  · by_cases h3 : s.phase = 3 <;> simp [h27, h3, hp]
  by_cases h24 : c = 24
  · simp [h24, hp]
  by_cases h26 : c = 26
  · simp [h26, hp]
  by_cases h32 : 32 ≤ c
  · simp [h27, h24, h26, h32, hp]
  by_cases h3 : s.phase = 3
  · by_cases h7 : c = 7 ∧ s.kind = 6
    · simp [h3, h7]
    · by_cases h8 : 8 ≤ c ∧ c ≤ 13 <;> simp [h27, h24, h26, h32, h3, h7, h8]
  · simp [h27, h24, h26, h32, h3, hp]
def endM (s : PS) (c : Int) : PS × List Tok := if c % 128 = 92 then (PS.init, emit s) else takeM1 (PS.begin_ 1 3) c
theorem take_SS1 (c : Int) (hc : 0 ≤ c ∧ c < 256) (hp : s.phase ≠ 4) (hok : s.ok) (hn : ts.length ≤ 100000) (h : SS lv w p s o ts) : Calls Tryz.prog 25 #[.pointer (some ⟨p, 0, none⟩), .int .u8 c, .pointer (some ⟨o, 0, none⟩)] w fun e w' => e = .returned (.tuple #[]) ∧ Took lv w p o ts (takeM1 s c) w' := by
  cases hb : (ctlB s c).1 with
  | true =>
    have e : takeM1 s c = (ctlB s c).2 := by rw [takeM1_ctl hp, if_pos hb]
    rw [e]
    exact take_ctl c hc hb hok hn h
  | false =>
    have e : takeM1 s c = stepM s c := by rw [takeM1_ctl hp, if_neg (by simp [hb])]
    rw [e]
    have := hok.phase
    rcases (by omega : s.phase = 0 ∨ s.phase = 1 ∨ s.phase = 2 ∨ s.phase = 3) with h0 | h1 | h2 | h3
    · exact take_0 c hc h0 hb hok hn h
    · by_cases h127 : c % 128 = 127
      · exact take_1x c hc h1 hb hok hn h h127
      · exact take_1 c hc h1 hb hok hn h h127
    · by_cases h127 : c % 128 = 127
      · exact take_2x c hc h2 hb hok hn h h127
      · exact take_2 c hc h2 hb hok hn h h127
    · exact take_3 c hc h3 hb hok hn h

set_option maxRecDepth 100000 in
set_option maxHeartbeats 1000000 in
theorem ending_SS (c : Int) (hc : 0 ≤ c ∧ c < 256) (hok : s.ok) (hn : ts.length ≤ 100000) (h : SS lv w p s o ts) : Calls Tryz.prog 52 #[.pointer (some ⟨p, 0, none⟩), .int .u8 c, .pointer (some ⟨o, 0, none⟩)] w fun e w' => e = .returned (.tuple #[]) ∧ Took lv w p o ts (endM s c) w' := by
  have hm := andNot128 c hc.1 hc.2
  by_cases h92 : c % 128 = 92
  · rw [show endM s c = (PS.init, emit s) by simp [endM, h92]]
    rw [h92] at hm
    clear h92
    go_enter Tryz.func52, Tryz.ntmps52
    go_wp2_with (first
      | (go_at_call 47; refine (done_SS hok hn h).mono ?_; rintro e w1 ⟨rfl, lv1, hs1, hS1⟩))
    refine bodyPost_ret (results_none rfl _ _ _) rfl ⟨rfl, .of hs1 hS1⟩
  · rw [show endM s c = takeM1 (PS.begin_ 1 3) c by simp [endM, h92]]
    obtain ⟨d, hd⟩ : ∃ d, d = c % 128 := ⟨_, rfl⟩
    rw [← hd] at hm h92
    have hq : (d == 92) = false := by simpa using h92
    clear h92
    have H := Lib.hid hd; clear hd
    go_enter Tryz.func52, Tryz.ntmps52
    go_wp2_with (first
      | (go_at_call 45; refine (begin_SS 1 3 h).mono ?_; rintro e w1 ⟨rfl, hs1, hS1⟩)
      | (go_at_call 25; refine (take_SS1 c hc (by simp [PS.begin_]) (ok_begin 1 3 (by omega) (by omega)) hn hS1).mono ?_; rintro e w2 ⟨rfl, lv2, hs2, hS2⟩))
    go_end0
    exact ⟨rfl, .of (hs1.trans hs2) hS2⟩

set_option maxRecDepth 100000 in
set_option maxHeartbeats 1000000 in
theorem take_4 (c : Int) (hc : 0 ≤ c ∧ c < 256) (hp : s.phase = 4) (hb : (ctlB s c).1 = false) (hok : s.ok) (hn : ts.length ≤ 100000) (h : SS lv w p s o ts) (h27 : c ≠ 27) : Calls Tryz.prog 25 #[.pointer (some ⟨p, 0, none⟩), .int .u8 c, .pointer (some ⟨o, 0, none⟩)] w fun e w' => e = .returned (.tuple #[]) ∧ Took lv w p o ts (takeM s c) w' := by
  have hcl := control_left c hc hb hok hn h
  rw [show takeM s c = endM s c by simp [takeM, endM, hp, h27]]
  have H := Lib.hid hb; clear hb
  have hidx : ∀ w, (Instr.index 77 (.agg stepFs) (.int .i64 4)).run Tryz.prog w = .ok (.func (.func 52) #[] #[]) w := fun _ => by kernel_rfl
  go_enter Tryz.func25, Tryz.ntmps25
  go_wp2_with (first
    | (go_at_call 34; refine hcl.mono ?_; rintro e w1 ⟨rfl, lv1, hs1, hS1⟩
       have hS1' := hS1
       obtain ⟨iv, dv, av, ov, qs, hS⟩ := hS1'
       have k0 := hS.pm.p0 hp))
  go_region_with (first
    | (go_at_call 35; refine (steps_walk _).mono ?_; rintro e w2 ⟨rfl, hg2⟩; have hS2 := hS.gr (((Gr.refl _).drew).trans hg2); have q0 := hS2.pm.p0 hp)
    | (go_at_call 52; refine (ending_SS c hc hok hn ⟨_, _, _, _, _, hS2⟩).mono ?_; rintro e w3 ⟨rfl, lv3, hs3, hS3⟩))
  all_goals
    go_wp2_with fail
    go_end0
    exact ⟨rfl, .of ((hs1.trans (.gr (((Gr.refl _).drew).trans hg2))).trans hs3) hS3⟩

theorem take_SS (c : Int) (hc : 0 ≤ c ∧ c < 256) (hok : s.ok) (hn : ts.length ≤ 100000) (h : SS lv w p s o ts) : Calls Tryz.prog 25 #[.pointer (some ⟨p, 0, none⟩), .int .u8 c, .pointer (some ⟨o, 0, none⟩)] w fun e w' => e = .returned (.tuple #[]) ∧ Took lv w p o ts (takeM s c) w' := by
  by_cases h4 : s.phase = 4
  · by_cases h27 : c = 27
    · subst h27
      have e : takeM s 27 = (ctlB s 27).2 := by simp [takeM, takeM1, ctlB, h4]
      rw [e]
      exact take_ctl 27 hc (by simp [ctlB, h4]) hok hn h
    · exact take_4 c hc h4 (by simp [ctlB, h4, h27]) hok hn h h27
  · rw [show takeM s c = takeM1 s c by simp [takeM, h4]]
    exact take_SS1 c hc h4 hok hn h
end Go.Proofs.YtonbnmicgmnliaaGreatDoor
