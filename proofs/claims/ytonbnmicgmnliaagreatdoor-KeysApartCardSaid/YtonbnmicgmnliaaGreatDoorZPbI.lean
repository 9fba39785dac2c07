/-
  The parser's method take, walked.
-/
import Derived.Test.YtonbnmicgmnliaaGreatDoorZPbH
namespace Go.Proofs.YtonbnmicgmnliaaGreatDoor
set_option linter.unusedSimpArgs false
set_option linter.unusedVariables false
set_option linter.unusedSectionVars false
open Go.RowKit
variable [Bs]

variable {lv : List Nat} {w : World} {p o : Nat} {s : PS} {ts : List Tok}

def stepFs : Array Value := #[.func (.func 48) #[] #[], .func (.func 49) #[] #[], .func (.func 50) #[] #[], .func (.func 51) #[] #[], .func (.func 52) #[] #[]]

set_option maxHeartbeats 1000000 in
theorem steps_walk (w : World) : Calls Tryz.prog 35 #[] w fun e w' => e = .returned (.agg stepFs) ∧ Gr w w' := by
  go_enter Tryz.func35, Tryz.ntmps35
  go_wp2_with (refine wpList_store_abs rfl _ _ _ rfl w.heap.size stepFs rfl rfl _ _ (heap_alloc_new _ _) (by kernel_rfl) (by kernel_rfl) (by kernel_rfl) ?_; intro w1 hh hb hs)
  have q := cells5 hh
  refine bodyPost_ret (v := .agg stepFs) (by simp [results, Tryz.results35, go_sem, q, stepFs]) rfl ⟨rfl, ?_⟩
  exact ((Gr.refl w).alloc _).step (Nat.le_refl _) hb

theorem ctlB_false {c : Int} (h : (ctlB s c).1 = false) : (ctlB s c).2 = (s, []) := by
  unfold ctlB at h ⊢
  repeat' split at h
  all_goals (repeat' split) <;> simp_all

set_option maxRecDepth 100000 in
set_option maxHeartbeats 1000000 in
theorem take_ctl (c : Int) (hc : 0 ≤ c ∧ c < 256) (hb : (ctlB s c).1 = true) (hok : s.ok) (hn : ts.length ≤ 100000) (h : SS lv w p s o ts) : Calls Tryz.prog 25 #[.pointer (some ⟨p, 0, none⟩), .int .u8 c, .pointer (some ⟨o, 0, none⟩)] w fun e w' => e = .returned (.tuple #[]) ∧ Took lv w p o ts (ctlB s c).2 w' := by
  have hcl : Calls Tryz.prog 34 #[.pointer (some ⟨p, 0, none⟩), .int .u8 c, .pointer (some ⟨o, 0, none⟩)] w fun e w' => e = .returned (.bool true) ∧ Took lv w p o ts (ctlB s c).2 w' := by rw [← hb]; exact control_SS c hc hok hn h
  have H := Lib.hid hb; clear hb
  go_enter Tryz.func25, Tryz.ntmps25
  go_wp2_with (first
    | (go_at_call 34; refine hcl.mono ?_; rintro e w1 ⟨rfl, ht⟩))
  refine bodyPost_ret (results_none rfl _ _ _) rfl ⟨rfl, ht⟩

/-- What control leaves where it leaves a byte to the phase. -/
theorem control_left (c : Int) (hc : 0 ≤ c ∧ c < 256) (hb : (ctlB s c).1 = false) (hok : s.ok) (hn : ts.length ≤ 100000) (h : SS lv w p s o ts) :
    Calls Tryz.prog 34 #[.pointer (some ⟨p, 0, none⟩), .int .u8 c, .pointer (some ⟨o, 0, none⟩)] w fun e w' => e = .returned (.bool false) ∧ ∃ lv', Stp lv w lv' w' ∧ SS lv' w' p s o ts := by
  rw [← hb]
  refine (control_SS c hc hok hn h).mono ?_
  rintro e w' ⟨rfl, lv1, hs1, hS1⟩
  rw [ctlB_false hb] at hS1
  exact ⟨rfl, lv1, hs1, by simpa using hS1⟩
theorem PMem.p0 {lv : List Nat} {w : World} {p : Nat} {s : PS} {iv dv av : Value} (h : PMem lv w p s iv dv av) {n : Int} (hp : s.phase = n) : w.cell? ⟨p, 0, none⟩ = some (.int .i64 n) := by
  rw [← hp]; exact cell_of_row h.blk 0 (.int .i64 s.phase) rfl

set_option maxRecDepth 100000 in
set_option maxHeartbeats 1000000 in
theorem take_0 (c : Int) (hc : 0 ≤ c ∧ c < 256) (hp : s.phase = 0) (hb : (ctlB s c).1 = false) (hok : s.ok) (hn : ts.length ≤ 100000) (h : SS lv w p s o ts) : Calls Tryz.prog 25 #[.pointer (some ⟨p, 0, none⟩), .int .u8 c, .pointer (some ⟨o, 0, none⟩)] w fun e w' => e = .returned (.tuple #[]) ∧ Took lv w p o ts (stepM s c) w' := by
  have hcl := control_left c hc hb hok hn h
  rw [show stepM s c = (s, [printT c]) by simp [stepM, hp]]
  have H := Lib.hid hb; clear hb
  have hidx : ∀ w, (Instr.index 77 (.agg stepFs) (.int .i64 0)).run Tryz.prog w = .ok (.func (.func 48) #[] #[]) w := fun _ => by kernel_rfl
  go_enter Tryz.func25, Tryz.ntmps25
  go_wp2_with (first
    | (go_at_call 34; refine hcl.mono ?_; rintro e w1 ⟨rfl, lv1, hs1, hS1⟩
       have hS1' := hS1
       obtain ⟨iv, dv, av, ov, qs, hS⟩ := hS1'
       have k0 := hS.pm.p0 hp))
  go_region_with (first
    | (go_at_call 35; refine (steps_walk _).mono ?_; rintro e w2 ⟨rfl, hg2⟩; have hS2 := hS.gr (((Gr.refl _).drew).trans hg2); have q0 := hS2.pm.p0 hp)
    | (go_at_call 48; refine (plain_SS c _ hn ⟨_, _, _, _, _, hS2⟩).mono ?_; rintro e w3 ⟨rfl, lv3, hs3, hS3⟩))
  all_goals
    go_wp2_with fail
    go_end0
    exact ⟨rfl, .of ((hs1.trans (.gr (((Gr.refl _).drew).trans hg2))).trans hs3) hS3⟩

set_option maxRecDepth 100000 in
set_option maxHeartbeats 1000000 in
theorem take_1 (c : Int) (hc : 0 ≤ c ∧ c < 256) (hp : s.phase = 1) (hb : (ctlB s c).1 = false) (hok : s.ok) (hn : ts.length ≤ 100000) (h : SS lv w p s o ts) (h127 : c % 128 ≠ 127) : Calls Tryz.prog 25 #[.pointer (some ⟨p, 0, none⟩), .int .u8 c, .pointer (some ⟨o, 0, none⟩)] w fun e w' => e = .returned (.tuple #[]) ∧ Took lv w p o ts (stepM s c) w' := by
  have hcl := control_left c hc hb hok hn h
  have hm := andNot128 c hc.1 hc.2
  obtain ⟨d, hd⟩ : ∃ d, d = c % 128 := ⟨_, rfl⟩
  rw [← hd] at hm h127
  have hd2 : 0 ≤ d ∧ d < 256 := by omega
  have hq : (d == 127) = false := by simpa using h127
  rw [show stepM s c = escapedM s d by simp [stepM, hp, ← hd, h127]]
  have H1 := Lib.hid hd; have H2 := Lib.hid h127; clear hd h127
  have H := Lib.hid hb; clear hb
  have hidx : ∀ w, (Instr.index 77 (.agg stepFs) (.int .i64 1)).run Tryz.prog w = .ok (.func (.func 49) #[] #[]) w := fun _ => by kernel_rfl
  go_enter Tryz.func25, Tryz.ntmps25
  go_wp2_with (first
    | (go_at_call 34; refine hcl.mono ?_; rintro e w1 ⟨rfl, lv1, hs1, hS1⟩
       have hS1' := hS1
       obtain ⟨iv, dv, av, ov, qs, hS⟩ := hS1'
       have k0 := hS.pm.p0 hp))
  go_region_with (first
    | (go_at_call 35; refine (steps_walk _).mono ?_; rintro e w2 ⟨rfl, hg2⟩; have hS2 := hS.gr (((Gr.refl _).drew).trans hg2); have q0 := hS2.pm.p0 hp)
    | (go_at_call 49; refine (escaped_SS d hd2 hok hn ⟨_, _, _, _, _, hS2⟩).mono ?_; rintro e w3 ⟨rfl, lv3, hs3, hS3⟩))
  all_goals
    go_wp2_with fail
    go_end0
    exact ⟨rfl, .of ((hs1.trans (.gr (((Gr.refl _).drew).trans hg2))).trans hs3) hS3⟩

set_option maxRecDepth 100000 in
set_option maxHeartbeats 1000000 in
theorem take_1x (c : Int) (hc : 0 ≤ c ∧ c < 256) (hp : s.phase = 1) (hb : (ctlB s c).1 = false) (hok : s.ok) (hn : ts.length ≤ 100000) (h : SS lv w p s o ts) (h127 : c % 128 = 127) : Calls Tryz.prog 25 #[.pointer (some ⟨p, 0, none⟩), .int .u8 c, .pointer (some ⟨o, 0, none⟩)] w fun e w' => e = .returned (.tuple #[]) ∧ Took lv w p o ts (stepM s c) w' := by
  have hcl := control_left c hc hb hok hn h
  have hm := andNot128 c hc.1 hc.2
  rw [show stepM s c = (s, []) by simp [stepM, hp, h127]]
  rw [h127] at hm
  have H := Lib.hid hb; clear hb h127
  go_enter Tryz.func25, Tryz.ntmps25
  go_wp2_with (first
    | (go_at_call 34; refine hcl.mono ?_; rintro e w1 ⟨rfl, lv1, hs1, hS1⟩
       have hS1' := hS1
       obtain ⟨iv, dv, av, ov, qs, hS⟩ := hS1'
       have k0 := hS.pm.p0 hp))
  refine bodyPost_ret (results_none rfl _ _ _) rfl ⟨rfl, .of0 hs1 hS1⟩

set_option maxRecDepth 100000 in
set_option maxHeartbeats 1000000 in
theorem take_2 (c : Int) (hc : 0 ≤ c ∧ c < 256) (hp : s.phase = 2) (hb : (ctlB s c).1 = false) (hok : s.ok) (hn : ts.length ≤ 100000) (h : SS lv w p s o ts) (h127 : c % 128 ≠ 127) : Calls Tryz.prog 25 #[.pointer (some ⟨p, 0, none⟩), .int .u8 c, .pointer (some ⟨o, 0, none⟩)] w fun e w' => e = .returned (.tuple #[]) ∧ Took lv w p o ts (stepM s c) w' := by
  have hcl := control_left c hc hb hok hn h
  have hm := andNot128 c hc.1 hc.2
  obtain ⟨d, hd⟩ : ∃ d, d = c % 128 := ⟨_, rfl⟩
  rw [← hd] at hm h127
  have hd2 : 0 ≤ d ∧ d < 256 := by omega
  have hq : (d == 127) = false := by simpa using h127
  rw [show stepM s c = headerM s d by simp [stepM, hp, ← hd, h127]]
  have H1 := Lib.hid hd; have H2 := Lib.hid h127; clear hd h127
  have H := Lib.hid hb; clear hb
  have hidx : ∀ w, (Instr.index 77 (.agg stepFs) (.int .i64 2)).run Tryz.prog w = .ok (.func (.func 50) #[] #[]) w := fun _ => by kernel_rfl
  go_enter Tryz.func25, Tryz.ntmps25
  go_wp2_with (first
    | (go_at_call 34; refine hcl.mono ?_; rintro e w1 ⟨rfl, lv1, hs1, hS1⟩
       have hS1' := hS1
       obtain ⟨iv, dv, av, ov, qs, hS⟩ := hS1'
       have k0 := hS.pm.p0 hp))
  go_region_with (first
    | (go_at_call 35; refine (steps_walk _).mono ?_; rintro e w2 ⟨rfl, hg2⟩; have hS2 := hS.gr (((Gr.refl _).drew).trans hg2); have q0 := hS2.pm.p0 hp)
    | (go_at_call 50; refine (header_SS d hd2 hok hn ⟨_, _, _, _, _, hS2⟩).mono ?_; rintro e w3 ⟨rfl, lv3, hs3, hS3⟩))
  all_goals
    go_wp2_with fail
    go_end0
    exact ⟨rfl, .of ((hs1.trans (.gr (((Gr.refl _).drew).trans hg2))).trans hs3) hS3⟩

set_option maxRecDepth 100000 in
set_option maxHeartbeats 1000000 in
theorem take_2x (c : Int) (hc : 0 ≤ c ∧ c < 256) (hp : s.phase = 2) (hb : (ctlB s c).1 = false) (hok : s.ok) (hn : ts.length ≤ 100000) (h : SS lv w p s o ts) (h127 : c % 128 = 127) : Calls Tryz.prog 25 #[.pointer (some ⟨p, 0, none⟩), .int .u8 c, .pointer (some ⟨o, 0, none⟩)] w fun e w' => e = .returned (.tuple #[]) ∧ Took lv w p o ts (stepM s c) w' := by
  have hcl := control_left c hc hb hok hn h
  have hm := andNot128 c hc.1 hc.2
  rw [show stepM s c = (s, []) by simp [stepM, hp, h127]]
  rw [h127] at hm
  have H := Lib.hid hb; clear hb h127
  go_enter Tryz.func25, Tryz.ntmps25
  go_wp2_with (first
    | (go_at_call 34; refine hcl.mono ?_; rintro e w1 ⟨rfl, lv1, hs1, hS1⟩
       have hS1' := hS1
       obtain ⟨iv, dv, av, ov, qs, hS⟩ := hS1'
       have k0 := hS.pm.p0 hp))
  refine bodyPost_ret (results_none rfl _ _ _) rfl ⟨rfl, .of0 hs1 hS1⟩

set_option maxRecDepth 100000 in
set_option maxHeartbeats 1000000 in
theorem take_3 (c : Int) (hc : 0 ≤ c ∧ c < 256) (hp : s.phase = 3) (hb : (ctlB s c).1 = false) (hok : s.ok) (hn : ts.length ≤ 100000) (h : SS lv w p s o ts) : Calls Tryz.prog 25 #[.pointer (some ⟨p, 0, none⟩), .int .u8 c, .pointer (some ⟨o, 0, none⟩)] w fun e w' => e = .returned (.tuple #[]) ∧ Took lv w p o ts (stepM s c) w' := by
  have hcl := control_left c hc hb hok hn h
  rw [show stepM s c = (textM s c, []) by simp [stepM, hp]]
  have H := Lib.hid hb; clear hb
  have hidx : ∀ w, (Instr.index 77 (.agg stepFs) (.int .i64 3)).run Tryz.prog w = .ok (.func (.func 51) #[] #[]) w := fun _ => by kernel_rfl
  go_enter Tryz.func25, Tryz.ntmps25
  go_wp2_with (first
    | (go_at_call 34; refine hcl.mono ?_; rintro e w1 ⟨rfl, lv1, hs1, hS1⟩
       have hS1' := hS1
       obtain ⟨iv, dv, av, ov, qs, hS⟩ := hS1'
       have k0 := hS.pm.p0 hp))
  go_region_with (first
    | (go_at_call 35; refine (steps_walk _).mono ?_; rintro e w2 ⟨rfl, hg2⟩; have hS2 := hS.gr (((Gr.refl _).drew).trans hg2); have q0 := hS2.pm.p0 hp)
    | (go_at_call 51; refine (text_SS c _ hok ⟨_, _, _, _, _, hS2⟩).mono ?_; rintro e w3 ⟨rfl, lv3, hs3, hS3⟩))
  all_goals
    go_wp2_with fail
    go_end0
    exact ⟨rfl, .of0 ((hs1.trans (.gr (((Gr.refl _).drew).trans hg2))).trans hs3) hS3⟩

end Go.Proofs.YtonbnmicgmnliaaGreatDoor
