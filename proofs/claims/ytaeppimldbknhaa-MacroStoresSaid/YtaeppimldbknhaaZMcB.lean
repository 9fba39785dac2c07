/-
  Hexadecimal digits: what the functions of both texts do with one.
-/
import Derived.BigQuiet
import Derived.Deep.QuietTactic
import Derived.IntWalk
import Derived.Lib.Hide
import Derived.Test.YtaeppimldbknhaaShelf
import Derived.Test.YtaeppimldbknhaaZSrc
import Derived.Test.YtaeppimldbknhaaZMcA
import Derived.Test.YtaeppimldbknhaaZBld2
namespace Go.Proofs.Ytaeppimldbknhaa
set_option linter.unusedSimpArgs false
set_option linter.unusedVariables false
open Go.RowKit
set_option linter.unusedVariables false

/-- A text of a list. -/
def bsl (l : List UInt8) : ByteArray := ⟨l.toArray⟩
theorem bsl_size (l : List UInt8) : (bsl l).size = l.length := by simp [bsl, ByteArray.size]
theorem bsl_list (l : List UInt8) : (bsl l).data.toList = l := by simp [bsl]
theorem bsl_of (s : ByteArray) : s = bsl s.data.toList := by simp [bsl]
theorem bsl_extract (l : List UInt8) (x y : Nat) : (bsl l).extract x y = bsl ((l.drop x).take (y - x)) := by
  unfold bsl
  apply ByteArray.ext
  rw [ByteArray.data_extract]
  apply Array.ext'
  simp [List.extract_eq_take_drop]
theorem bsl_app (a b : List UInt8) : bsl a ++ bsl b = bsl (a ++ b) := by
  apply ByteArray.ext
  rw [ByteArray.data_append]
  apply Array.ext'
  simp [bsl]
theorem bsl_get {l : List UInt8} {x : Nat} (h : x < (bsl l).size) : (bsl l)[x]'h = l[x]'(by rw [← bsl_size]; exact h) := by simp [bsl, ByteArray.getElem_eq_getElem_data]

/-- A digit's number, as both texts have it. -/
def digZ (c : Int) : Int := if 48 ≤ c ∧ c ≤ 57 then c - 48 else if 65 ≤ c ∧ c ≤ 70 then c - 55 else if 97 ≤ c ∧ c ≤ 102 then c - 87 else -1
theorem digZ_some {c : UInt8} {n : Nat} (h : digR c = some n) : digZ c.toNat = n := by
  unfold digR at h
  unfold digZ
  have hc := c.toNat_lt
  by_cases h1 : 48 ≤ c.toNat ∧ c.toNat ≤ 57
  · rw [if_pos h1] at h; injection h; rw [if_pos (by omega)]; omega
  · rw [if_neg h1] at h; rw [if_neg (by omega)]
    by_cases h2 : 65 ≤ c.toNat ∧ c.toNat ≤ 70
    · rw [if_pos h2] at h; injection h; rw [if_pos (by omega)]; omega
    · rw [if_neg h2] at h; rw [if_neg (by omega)]
      by_cases h3 : 97 ≤ c.toNat ∧ c.toNat ≤ 102
      · rw [if_pos h3] at h; injection h; rw [if_pos (by omega)]; omega
      · rw [if_neg h3] at h; cases h
theorem digZ_none {c : UInt8} (h : digR c = none) : digZ c.toNat = -1 := by
  unfold digR at h
  unfold digZ
  by_cases h1 : 48 ≤ c.toNat ∧ c.toNat ≤ 57
  · rw [if_pos h1] at h; cases h
  · rw [if_neg h1] at h; rw [if_neg (by omega)]
    by_cases h2 : 65 ≤ c.toNat ∧ c.toNat ≤ 70
    · rw [if_pos h2] at h; cases h
    · rw [if_neg h2] at h; rw [if_neg (by omega)]
      by_cases h3 : 97 ≤ c.toNat ∧ c.toNat ≤ 102
      · rw [if_pos h3] at h; cases h
      · rw [if_neg (by omega)]
theorem digZ_in (c : Int) : digZ c = -1 ∨ (0 ≤ digZ c ∧ digZ c < 16) := by
  unfold digZ
  split
  · omega
  · split
    · omega
    · split <;> omega
def digT : List UInt8 := [48, 49, 50, 51, 52, 53, 54, 55, 56, 57, 65, 66, 67, 68, 69, 70]
theorem dig_upper (c : Int) (h0 : 0 ≤ c) (h1 : c < 256) (h : ¬ (97 ≤ c ∧ c ≤ 102)) : Lib.indexByte digT c.toNat.toUInt8 = digZ c := by
  have H : ∀ k : Fin 256, ¬ (97 ≤ (k.val : Int) ∧ (k.val : Int) ≤ 102) → Lib.indexByte digT k.val.toUInt8 = digZ (k.val : Int) := by decide +kernel
  have := H ⟨c.toNat, by omega⟩ (by simp only [Int.toNat_of_nonneg h0]; exact h)
  simpa only [Int.toNat_of_nonneg h0] using this
theorem dig_lower (c : Int) (h : 97 ≤ c ∧ c ≤ 102) : Lib.indexByte digT (c - 32).toNat.toUInt8 = digZ c := by
  have H : ∀ k : Fin 6, Lib.indexByte digT (97 + k.val - 32).toUInt8 = digZ (97 + (k.val : Int)) := by decide +kernel
  have := H ⟨(c - 97).toNat, by omega⟩
  have e1 : 97 + (c - 97).toNat - 32 = (c - 32).toNat := by omega
  have e2 : (97 : Int) + ((c - 97).toNat : Int) = c := by omega
  simp only [e1, e2] at this
  exact this

set_option maxRecDepth 100000 in
set_option maxHeartbeats 1000000 in
theorem digit_any (c : Int) (h0 : 0 ≤ c) (h1 : c < 256) (w : World) : Calls Try.prog 53 #[.int .u8 c] w fun e w' => e = .returned (.int .i64 (digZ c)) ∧ w' = w := by
  by_cases h : 97 ≤ c ∧ c ≤ 102
  · have H := Lib.hid (dig_lower c h)
    obtain ⟨ha, hb⟩ := h
    go_enter Try.func53, Try.ntmps53
    go_wp2_with (go_at_call 65; (with_reducible refine (Try.strings_IndexByte _ _ _).mono ?_); rintro e w1 ⟨rfl, rfl⟩)
    go_ret
    exact ⟨by rw [← H.out]; rfl, rfl⟩
  · have H := Lib.hid (dig_upper c h0 h1 h)
    by_cases ha : 97 ≤ c
    · have hb : ¬ c ≤ 102 := fun hh => h ⟨ha, hh⟩
      clear h
      go_enter Try.func53, Try.ntmps53
      go_wp2_with (go_at_call 65; (with_reducible refine (Try.strings_IndexByte _ _ _).mono ?_); rintro e w1 ⟨rfl, rfl⟩)
      go_ret
      exact ⟨by rw [← H.out]; rfl, rfl⟩
    · clear h
      go_enter Try.func53, Try.ntmps53
      go_wp2_with (go_at_call 65; (with_reducible refine (Try.strings_IndexByte _ _ _).mono ?_); rintro e w1 ⟨rfl, rfl⟩)
      go_ret
      exact ⟨by rw [← H.out]; rfl, rfl⟩

/-! ### The document's -/
theorem u8_small (x : Int) (h0 : 0 ≤ x) (h1 : x < 256) : IntKind.u8.wrap x = x := by
  have H : ∀ k : Fin 256, IntKind.u8.wrap (k.val : Int) = (k.val : Int) := by decide +kernel
  have := H ⟨x.toNat, by omega⟩
  simpa only [Int.toNat_of_nonneg h0] using this
set_option maxRecDepth 100000 in
set_option maxHeartbeats 1000000 in
theorem hexd_lo (n : Int) (h0 : 0 ≤ n) (h1 : n < 10) (w : World) : Calls Try.prog 61 #[.int .i64 n] w fun e w' => e = .returned (.int .u8 (48 + n)) ∧ w = w' := by
  have hw := u8_small (48 + n) (by omega) (by omega)
  go_enter Try.func61, Try.ntmps61
  go_wp2
  go_ret
  exact ⟨rfl, rfl⟩
set_option maxRecDepth 100000 in
set_option maxHeartbeats 1000000 in
theorem hexd_hi (n : Int) (h0 : 10 ≤ n) (h1 : n < 16) (w : World) : Calls Try.prog 61 #[.int .i64 n] w fun e w' => e = .returned (.int .u8 (65 + n - 10)) ∧ w = w' := by
  have hw := u8_small (65 + n - 10) (by omega) (by omega)
  go_enter Try.func61, Try.ntmps61
  go_wp2
  go_ret
  exact ⟨rfl, rfl⟩
end Go.Proofs.Ytaeppimldbknhaa
