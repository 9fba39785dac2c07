/-
  What the program's sets of characters compute, function by function: the glyph of a code.
-/
import Derived.Test.YtomflpkokcldeaaRows
import Derived.Test.YtomflpkokcldeaaCsTab
import Derived.Test.YtomflpkokcldeaaLw
import Derived.Lib.RuneCount
namespace Go.Proofs.Ytomflpkokcldeaa
set_option linter.unusedSimpArgs false
set_option linter.unusedVariables false
open Go.RowKit

set_option maxHeartbeats 400000 in
theorem nth_any (s : ByteArray) (n : Int) (w : World) (h0 : 0 ≤ n) (h1 : n < 1000) :
    Calls Try.prog 40 #[.string s, .int .i64 n] w fun e w' => e = .returned (.int .i32 (nthR s s.size 0 n)) ∧ Gr w w' := by
  go_enter Try.func40, Try.ntmps40
  go_wp2
  go_loopw [1, 6] (fun v r w' => ∃ (pos f : Nat) (m : Int), 0 ≤ m ∧ m < 1000 ∧ w' = w.iter s pos ∧ v = .int .i64 m ∧ nthR s f pos m = nthR s s.size 0 n ∧ s.size ≤ pos + f) (fun _ _ w' => s.size - w'.iterPos w.heap.size)
  case atStart => exact ⟨0, s.size, n, by omega, by omega, rfl, rfl, rfl, by omega⟩
  case round =>
    obtain ⟨pos, f, m, hm0, hm1, rfl, rfl, hr, hf⟩ := hrel
    by_cases hp : pos < s.size
    · have hw := Lib.decode_width_pos s pos hp
      have hn : ∀ ty, (Instr.next (.pointer (some ⟨w.heap.size, 0, none⟩)) true ty).run Try.prog (w.iter s pos) = _ := fun ty => run_next_any w s pos ty hp
      obtain ⟨f, rfl⟩ : ∃ g, f = g + 1 := ⟨f - 1, by omega⟩
      have H := Lib.hid hr; clear hr
      by_cases hz : m = 0
      · subst hz
        go_wp2
        go_ret
        refine ⟨?_, (Below.refl _ _).alloc (Nat.le_refl _) _⟩
        rw [← H.out]; simp [nthR, hp]
      · go_wp2
        go_roundw
        case rel =>
          refine ⟨pos + (Utf8.decode s pos).2, f, m - 1, by omega, by omega, rfl, rfl, ?_, by omega⟩
          rw [← H.out]; simp [nthR, hp, hz]
        case measure => simp; omega
    · have hn : ∀ ty, (Instr.next (.pointer (some ⟨w.heap.size, 0, none⟩)) true ty).run Try.prog (w.iter s pos) = _ := fun ty => run_next_end w s pos ty hp
      have H := Lib.hid hr; clear hr
      go_wp2
      go_ret
      refine ⟨?_, (Below.refl _ _).alloc (Nat.le_refl _) _⟩
      rw [← H.out, nthR_end _ _ _ _ hp]; rfl


theorem andNot128 (c : Int) (h0 : 0 ≤ c) (h1 : c < 256) : bits BinOp.andNot IntKind.u8 c 128 = c % 128 := by
  have H : ∀ k : Fin 256, bits BinOp.andNot IntKind.u8 (k.val : Int) 128 = (k.val : Int) % 128 := by decide +kernel
  have := H ⟨c.toNat, by omega⟩
  simpa [Int.toNat_of_nonneg h0] using this

set_option maxHeartbeats 400000 in
theorem is_any (n : Int) (w : World) :
    Calls Try.prog 39 #[.int .i64 n] w fun e w' => e = .returned (.bool (between 1 17 n)) ∧ w = w' := by
  go_enter Try.func39, Try.ntmps39
  go_wp2
  all_goals (go_ret; refine ⟨?_, rfl⟩; simp [between]; try omega)

set_option maxHeartbeats 400000 in
theorem nat_any (n : Int) (w : World) :
    Calls Try.prog 43 #[.int .i64 n] w fun e w' => e = .returned (.bool (between 6 17 n)) ∧ w = w' := by
  go_enter Try.func43, Try.ntmps43
  go_wp2
  all_goals (go_ret; refine ⟨?_, rfl⟩; simp [between]; try omega)

set_option maxHeartbeats 1000000 in
theorem suppl_any (c : Int) (w : World) (h0 : 0 ≤ c) (h1 : c < 128) :
    Calls Try.prog 41 #[.int .u8 c] w fun e w' => e = .returned (.int .i32 (suppl c)) ∧ w = w' := by
  go_enter Try.func41, Try.ntmps41
  go_wp2
  all_goals (go_ret; refine ⟨?_, rfl⟩; simp_all [suppl])

set_option maxHeartbeats 1000000 in
theorem national_any (n : Int) (w : World) :
    Calls Try.prog 44 #[.int .i64 n] w fun e w' => e = .returned (.string (natStr n)) ∧ w = w' := by
  go_enter Try.func44, Try.ntmps44
  go_wp2
  all_goals (go_ret; refine ⟨?_, rfl⟩; simp_all [natStr, s_places])

theorem firstIdx_lt (s : ByteArray) (c : UInt8) (h : s.size ≤ 1000) : firstIdx s c < 1000 := by
  unfold firstIdx
  split
  · rename_i i hi
    have := List.mem_of_find?_eq_some hi
    simp at this; omega
  · omega

theorem call_idx (s : ByteArray) (c : Int) (w : World) : (callFunc 57 #[.string s, .int .u8 c]).run Try.prog w = .ok (.value (.int .i64 (firstIdx s c.toNat.toUInt8))) w := by
  rw [run_callFunc_extern (e := Extern.BytealgIndexByte.indexByte) Try.func57 (by kernel_rfl) (by kernel_rfl) (by kernel_rfl) (by kernel_rfl), run_indexByte_string]; rfl

set_option maxHeartbeats 400000 in
theorem idx_any (s : ByteArray) (c : Int) (w : World) :
    Calls Try.prog 42 #[.string s, .int .u8 c] w fun e w' => e = .returned (.int .i64 (firstIdx s c.toNat.toUInt8)) ∧ w = w' := by
  have h := call_idx s c
  go_enter Try.func42, Try.ntmps42
  go_wp2
  go_ret
  exact ⟨rfl, rfl⟩

set_option maxRecDepth 100000 in
set_option maxHeartbeats 1000000 in
theorem glyph_any (n c : Int) (w : World) (h0 : 0 ≤ c) (h1 : c < 256) :
    Calls Try.prog 28 #[.int .i64 n, .int .u8 c] w fun e w' => e = .returned (.int .i32 (Gl n (c % 128))) ∧ Gr w w' := by
  have hb := andNot128 c h0 h1
  have hf := firstIdx_lt s_places (c % 128).toNat.toUInt8 (by decide)
  have e1 : s_places = ⟨#[35, 64, 91, 92, 93, 94, 95, 96, 123, 124, 125, 126]⟩ := rfl
  rw [e1] at hf
  obtain ⟨d, hd⟩ : ∃ d, d = c % 128 := ⟨_, rfl⟩
  have d0 : 0 ≤ d := by omega
  have d1 : d < 128 := by omega
  rw [← hd] at hb hf ⊢
  clear hd e1
  go_enter Try.func28, Try.ntmps28
  go_wp2_with (first
    | (go_at_call 39; refine (is_any _ _).mono ?_; rintro e w' ⟨rfl, rfl⟩)
    | (go_at_call 42; refine (idx_any _ _ _).mono ?_; rintro e w' ⟨rfl, rfl⟩)
    | (go_at_call 43; refine (nat_any _ _).mono ?_; rintro e w' ⟨rfl, rfl⟩)
    | (go_at_call 41; refine (suppl_any _ _ (by omega) (by omega)).mono ?_; rintro e w' ⟨rfl, rfl⟩)
    | (go_at_call 44; refine (national_any _ _).mono ?_; rintro e w' ⟨rfl, rfl⟩)
    | (go_at_call 40; refine (nth_any _ _ _ (by omega) (by omega)).mono ?_; rintro e w' ⟨rfl, hbw⟩))
  all_goals (go_ret; go_light; refine ⟨congrArg (fun x => Ending.returned (Value.int IntKind.i32 x)) ?_, by first | exact Gr.refl _ | assumption⟩)
  all_goals (try simp only [beq_iff_eq, beq_eq_false_iff_ne, bne_iff_ne, ne_eq, bne_eq_false_iff_eq] at *)
  all_goals (try subst n)
  all_goals (try simp_all [Gl, s_places, s_drawing, s_technical])
  all_goals (try (intros; omega))
  · rw [if_neg (by omega)]; rfl
  · rw [if_neg (by omega), show (d - 32 - 1) % 256 = d - 33 from by omega]; rfl
end Go.Proofs.Ytomflpkokcldeaa
