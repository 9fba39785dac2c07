/-
  The laws on ids, names and finding of sets of characters; the law on national sets, the law on what is shown.
-/
import Derived.Test.YtomflpkokcldeaaCsWf
namespace Go.Proofs.Ytomflpkokcldeaa
set_option linter.unusedSimpArgs false
set_option linter.unusedVariables false
open Go.RowKit

theorem field_row (i : Nat) (hi : i = 1 ∨ i = 2 ∨ i = 3) (a b c d : Value) (w : World) : (Instr.field 86 (.agg #[a, b, c, d]) i).run Try.prog w = .ok (if i = 1 then b else if i = 2 then c else d) w := by
  rcases hi with rfl | rfl | rfl <;> (show _ = _; kernel_rfl)

set_option maxHeartbeats 400000 in
theorem id_any (n : Int) (w : World) :
    Calls Try.prog 32 #[.int .i64 n] w fun e w' => e = .returned (.tuple #[.string (idOf n), .bool (wideOf n)]) ∧ Gr w w' := by
  have f1 := fun a b c d w => field_row 1 (.inl rfl) a b c d w
  have f2 := fun a b c d w => field_row 2 (.inr (.inl rfl)) a b c d w
  simp only [if_true, if_false, Nat.reduceEqDiff] at f1 f2
  go_enter Try.func32, Try.ntmps32
  go_wp2_with (go_at_call 51; refine (of_any _ _).mono ?_; rintro e w1 ⟨rfl, hb⟩)
  go_ret2
  exact ⟨rfl, by (repeat (first | with_reducible (refine Gr.setCell ?_ ?hp _; case hp => (simp; try omega)) | with_reducible refine Gr.alloc ?_ _ | with_reducible refine Gr.drew ?_ | with_reducible refine Gr.drewN ?_ _ | with_reducible assumption | with_reducible exact Gr.refl _ | with_reducible refine Gr.trans ?_ (by assumption)))⟩

set_option maxHeartbeats 1000000 in
theorem rid_any (n : Int) (w : World) :
    Calls Try.prog 36 #[.int .i64 n] w fun e w' => e = .returned (.string (idOf n)) ∧ w = w' := by
  rw [id_eq]
  go_enter Try.func36, Try.ntmps36
  go_wp2
  all_goals (go_ret; refine ⟨?_, rfl⟩; simp_all [ridOf])

set_option maxHeartbeats 400000 in
theorem rwide_any (n : Int) (w : World) :
    Calls Try.prog 35 #[.int .i64 n] w fun e w' => e = .returned (.bool (wideOf n)) ∧ w = w' := by
  rw [wide_eq]
  go_enter Try.func35, Try.ntmps35
  go_wp2
  go_ret
  exact ⟨by simp; rfl, rfl⟩

set_option maxRecDepth 100000 in
set_option maxHeartbeats 1000000 in
theorem rfind_any (wide : Bool) (id : ByteArray) (w : World) :
    Calls Try.prog 50 #[.bool wide, .string id] w fun e w' => e = .returned (.int .i64 (findP wide id)) ∧ w = w' := by
  rw [find_eq]
  go_enter Try.func50, Try.ntmps50
  go_wp2
  go_loop [5] (fun i => ∃ k : Nat, k ≤ 17 ∧ i = .int .i64 (k + 1) ∧ rfindFrom wide id (17 - k) (k + 1) = rfindFrom wide id 17 1) (fun i => (18 - intOf i).toNat)
  case atStart => exact ⟨0, by omega, rfl, rfl⟩
  case round =>
    obtain ⟨k, hk, rfl, hf⟩ := hrel
    by_cases hlt : k < 17
    · have HF := Lib.hid hf; clear hf
      go_wp2_with (first
        | (go_at_call 35; refine (rwide_any _ _).mono ?_; rintro e w1 ⟨rfl, rfl⟩)
        | (go_at_call 36; refine (rid_any _ _).mono ?_; rintro e w1 ⟨rfl, rfl⟩))
      · have e1 : ridOf (k + 1) = id := by
          rw [← id_eq]; exact (bytes_inj _ _).1 (by simpa using (show ((idOf (k + 1)).toList == id.toList) = true by assumption))
        have e2 : decide ((k : Int) + 1 = 5) = wide := by rw [← wide_eq]; assumption
        have h2 : rfindFrom wide id 17 1 = k + 1 := by
          rw [← HF.out, show 17 - k = (16 - k) + 1 by omega, rfindFrom, if_pos ⟨e2, e1⟩]
        go_ret
        exact ⟨by rw [rfindP, h2, if_pos (by omega)]; rfl, rfl⟩
      · have e1 : ¬ ridOf (k + 1) = id := by
          rw [← id_eq]; intro x
          have := show ((idOf (k + 1)).toList == id.toList) = false by assumption
          rw [x] at this; simp at this
        go_round
        case rel => exact ⟨k + 1, by omega, by go_num, by rw [← HF.out, show 17 - k = (17 - (k + 1)) + 1 by omega, rfindFrom, if_neg (fun x => e1 x.2)]; rfl⟩
        case measure => simp [intOf]; omega
      · have e2 : ¬ decide ((k : Int) + 1 = 5) = wide := by rw [← wide_eq]; assumption
        go_round
        case rel => exact ⟨k + 1, by omega, by go_num, by rw [← HF.out, show 17 - k = (17 - (k + 1)) + 1 by omega, rfindFrom, if_neg (fun x => e2 x.1)]; rfl⟩
        case measure => simp [intOf]; omega
    · obtain rfl : k = 17 := by omega
      have hz : rfindFrom wide id 17 1 = 0 := hf.symm
      have HF := Lib.hid hz; clear hf hz
      cases wide
      all_goals
        go_wp2
        all_goals
          go_ret
          refine ⟨?_, rfl⟩
          rw [rfindP, HF.out]
          simp only [rtail, ← bytes_inj]
          go_light
          simp_all
end Go.Proofs.Ytomflpkokcldeaa
