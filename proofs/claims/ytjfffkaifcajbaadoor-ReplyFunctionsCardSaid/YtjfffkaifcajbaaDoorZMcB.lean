/-
  Digits and repeats: the plain law (what a text of a macro decodes to).
  A strings.Builder that the call has made itself: what its check and its WriteString do.
  Hexadecimal digits: what the functions of both texts do with one.
-/
import Derived.BigQuiet
import Derived.Deep.QuietTactic
import Derived.IntWalk
import Derived.Laws.Externs
import Derived.Lib.AppendStr
import Derived.Lib.Builder
import Derived.Lib.Hide
import Derived.Lib.Slices
import Derived.Lib.Strings
import Derived.Test.YtjfffkaifcajbaaDoorRows
import Derived.Test.YtjfffkaifcajbaaDoorShelf
import Derived.Test.YtjfffkaifcajbaaDoorZOrd6
import Derived.Test.YtjfffkaifcajbaaDoorZSrcN
namespace Go.Proofs.YtjfffkaifcajbaaDoor
set_option linter.unusedSimpArgs false
set_option linter.unusedVariables false
set_option linter.unusedVariables false

/-- A hexadecimal digit's number. -/
def digR (c : UInt8) : Option Nat :=
  if 48 ≤ c.toNat ∧ c.toNat ≤ 57 then some (c.toNat - 48) else if 65 ≤ c.toNat ∧ c.toNat ≤ 70 then some (c.toNat - 55) else if 97 ≤ c.toNat ∧ c.toNat ≤ 102 then some (c.toNat - 87) else none
theorem digR_lt {c : UInt8} {n : Nat} (h : digR c = some n) : n < 16 := by
  unfold digR at h
  split at h
  · injection h; omega
  · split at h
    · injection h; omega
    · split at h
      · injection h; omega
      · cases h
/-- Bytes out of hexadecimal digits. -/
def hexR : List UInt8 → Option (List UInt8)
  | [] => some []
  | [_] => none
  | a :: b :: r => match digR a, digR b with
    | some x, some y => (hexR r).map (UInt8.ofNat (16 * x + y) :: ·)
    | _, _ => none
theorem hexR_even : ∀ {l : List UInt8}, l.length % 2 = 1 → hexR l = none
  | [], h => by simp at h
  | [_], _ => rfl
  | a :: b :: r, h => by
    unfold hexR
    split
    · rw [hexR_even (by simp at h; omega)]; rfl
    · rfl
/-! ### Digits of bytes -/
def digB (n : Nat) : UInt8 := if n < 10 then UInt8.ofNat (48 + n) else UInt8.ofNat (55 + n)
def hexB (l : List UInt8) : List UInt8 := l.flatMap fun c => [digB (c.toNat / 16), digB (c.toNat % 16)]
theorem digB_facts : ∀ n : Fin 16, digR (digB n.val) = some n.val ∧ digB n.val ≠ 33 ∧ digB n.val ≠ 59 ∧ ¬ digB n.val = 47 := by decide +kernel
theorem dig_back (n : Nat) (h : n < 16) : digR (digB n) = some n := (digB_facts ⟨n, h⟩).1
theorem hexB_len (l : List UInt8) : (hexB l).length = 2 * l.length := by
  induction l with
  | nil => rfl
  | cons c l ih => simp [hexB] at ih ⊢; omega
theorem hexB_cons (c : UInt8) (l : List UInt8) : hexB (c :: l) = digB (c.toNat / 16) :: digB (c.toNat % 16) :: hexB l := rfl
theorem hexB_snoc (l : List UInt8) (c : UInt8) : hexB (l ++ [c]) = hexB l ++ [digB (c.toNat / 16), digB (c.toNat % 16)] := by simp [hexB]
theorem hex_back (l : List UInt8) : hexR (hexB l) = some l := by
  induction l with
  | nil => rfl
  | cons c l ih =>
    have hc := c.toNat_lt
    rw [hexB_cons]
    unfold hexR
    rw [dig_back _ (by omega), dig_back _ (by omega)]
    simp only [ih, Option.map_some, Option.some.injEq, List.cons.injEq, and_true]
    rw [Nat.div_add_mod]; simp
end Go.Proofs.YtjfffkaifcajbaaDoor

namespace Go.Proofs.YtjfffkaifcajbaaDoor
set_option linter.unusedSimpArgs false
set_option linter.unusedVariables false
open Go.RowKit

set_option maxHeartbeats 1000000 in
set_option maxRecDepth 100000 in
theorem bld_check_used (b : Nat) (w : World) (h0 : w.cell? ⟨b, 0, none⟩ = some (.pointer (some ⟨b, 0, none⟩))) :
    Calls Tryd.prog 43 #[.pointer (some ⟨b, 0, none⟩)] w fun e w' => e = .returned (.tuple #[]) ∧ w' = w := by
  obtain ⟨j, hj, _⟩ := Option.map_eq_some_iff.1 (show (Tryd.prog.info? 57).map (·.size) = some 2 by kernel_rfl)
  go_enter Tryd.func43, Tryd.ntmps43
  go_wp2
  rw [Lib.run_neq_ptr_same w _ Tryd.underlying55 hj]
  go_wp2
  go_end0
  exact ⟨rfl, rfl⟩

set_option maxHeartbeats 1000000 in
set_option maxRecDepth 100000 in
theorem bld_check_fresh (b : Nat) (w : World) (h0 : w.cell? ⟨b, 0, none⟩ = some (.pointer none)) (hsh : w.shape? b = some (57, 2)) (hfz : w.frozen? ⟨b, 0, none⟩ = false) :
    Calls Tryd.prog 43 #[.pointer (some ⟨b, 0, none⟩)] w fun e w' => e = .returned (.tuple #[]) ∧ w' = w.setCell ⟨b, 0, none⟩ (.pointer (some ⟨b, 0, none⟩)) := by
  obtain ⟨j, hj, hjs⟩ := Option.map_eq_some_iff.1 (show (Tryd.prog.info? 57).map (·.size) = some 2 by kernel_rfl)
  go_enter Tryd.func43, Tryd.ntmps43
  go_wp2
  rw [Lib.run_to_unsafe w ⟨b, 0, none⟩ Tryd.underlying55 Tryd.underlying86 hj (by rw [hjs]; decide) hsh (Nat.zero_lt_succ 1)]
  simp only [Result.andThen]
  rw [Oper.upon_value]
  go_wp2
  rw [run_callFunc_extern Tryd.func53 (by kernel_rfl) (by kernel_rfl) (by kernel_rfl) (e := Extern.AbiNoEscape.same) (by kernel_rfl)]
  rw [Lib.run_noEscape]
  simp only [Result.andThen]
  rw [Oper.upon_value]
  go_wp2
  rw [Lib.run_from_unsafe w ⟨b, 0, none⟩ Tryd.underlying86 Tryd.underlying55 hj hsh (by kernel_rfl)]
  simp only [Result.andThen]
  rw [Oper.upon_value]
  go_wp2
  go_end0
  exact ⟨rfl, rfl⟩

theorem bld_check (B b : Nat) (bs : List Value) (w : World) (h : Lib.IsBuilder 57 5 B b bs w) :
    Calls Tryd.prog 43 #[.pointer (some ⟨b, 0, none⟩)] w fun e w' => e = .returned (.tuple #[]) ∧ (Lib.BuilderAt 57 5 B b (.pointer (some ⟨b, 0, none⟩)) bs w' ∧ Below B w w') := by
  rcases h with h | h
  · refine (bld_check_fresh b w h.cell0 h.shape h.frozen0).mono ?_
    rintro e w' ⟨rfl, rfl⟩
    exact ⟨rfl, h.used _, (Below.refl B w).setCell (p := ⟨b, 0, none⟩) h.1 _⟩
  · refine (bld_check_used b w h.cell0).mono ?_
    rintro e w' ⟨rfl, rfl⟩
    exact ⟨rfl, h, Below.refl B _⟩

end Go.Proofs.YtjfffkaifcajbaaDoor

namespace Go.Proofs.YtjfffkaifcajbaaDoor
set_option linter.unusedSimpArgs false
set_option linter.unusedVariables false
open Go.RowKit
set_option linter.unusedVariables false

/-- A text of a list. -/
def bsl (l : List UInt8) : ByteArray := ⟨l.toArray⟩
theorem bsl_size (l : List UInt8) : (bsl l).size = l.length := by simp [bsl, ByteArray.size]
theorem bsl_list (l : List UInt8) : (bsl l).data.toList = l := by simp [bsl]
theorem bsl_of (s : ByteArray) : s = bsl s.data.toList := by simp [bsl]
theorem bsl_get {l : List UInt8} {x : Nat} (h : x < (bsl l).size) : (bsl l)[x]'h = l[x]'(by rw [← bsl_size]; exact h) := by simp [bsl, ByteArray.getElem_eq_getElem_data]

/-- A digit's number, as both texts have it. -/
def digZ (c : Int) : Int := if 48 ≤ c ∧ c ≤ 57 then c - 48 else if 65 ≤ c ∧ c ≤ 70 then c - 55 else if 97 ≤ c ∧ c ≤ 102 then c - 87 else -1
theorem digZ_some {c : UInt8} {n : Nat} (h : digR c = some n) : digZ c.toNat = n := by
  unfold digR at h
  unfold digZ
  have hc := c.toNat_lt
  by_cases h1 : 48 ≤ c.toNat ∧ c.toNat ≤ 57
  · rw [if_pos h1] at h; injection h; rw [if_pos (by omega)]; omega
  · rw [if_neg h1] at h; rw [if_neg (by omega)]
    by_cases h2 : 65 ≤ c.toNat ∧ c.toNat ≤ 70
    · rw [if_pos h2] at h; injection h; rw [if_pos (by omega)]; omega
    · rw [if_neg h2] at h; rw [if_neg (by omega)]
      by_cases h3 : 97 ≤ c.toNat ∧ c.toNat ≤ 102
      · rw [if_pos h3] at h; injection h; rw [if_pos (by omega)]; omega
      · rw [if_neg h3] at h; cases h
theorem digZ_none {c : UInt8} (h : digR c = none) : digZ c.toNat = -1 := by
  unfold digR at h
  unfold digZ
  by_cases h1 : 48 ≤ c.toNat ∧ c.toNat ≤ 57
  · rw [if_pos h1] at h; cases h
  · rw [if_neg h1] at h; rw [if_neg (by omega)]
    by_cases h2 : 65 ≤ c.toNat ∧ c.toNat ≤ 70
    · rw [if_pos h2] at h; cases h
    · rw [if_neg h2] at h; rw [if_neg (by omega)]
      by_cases h3 : 97 ≤ c.toNat ∧ c.toNat ≤ 102
      · rw [if_pos h3] at h; cases h
      · rw [if_neg (by omega)]
theorem digZ_in (c : Int) : digZ c = -1 ∨ (0 ≤ digZ c ∧ digZ c < 16) := by
  unfold digZ
  split
  · omega
  · split
    · omega
    · split <;> omega
def digT : List UInt8 := [48, 49, 50, 51, 52, 53, 54, 55, 56, 57, 65, 66, 67, 68, 69, 70]
theorem dig_upper (c : Int) (h0 : 0 ≤ c) (h1 : c < 256) (h : ¬ (97 ≤ c ∧ c ≤ 102)) : Lib.indexByte digT c.toNat.toUInt8 = digZ c := by
  have H : ∀ k : Fin 256, ¬ (97 ≤ (k.val : Int) ∧ (k.val : Int) ≤ 102) → Lib.indexByte digT k.val.toUInt8 = digZ (k.val : Int) := by decide +kernel
  have := H ⟨c.toNat, by omega⟩ (by simp only [Int.toNat_of_nonneg h0]; exact h)
  simpa only [Int.toNat_of_nonneg h0] using this
theorem dig_lower (c : Int) (h : 97 ≤ c ∧ c ≤ 102) : Lib.indexByte digT (c - 32).toNat.toUInt8 = digZ c := by
  have H : ∀ k : Fin 6, Lib.indexByte digT (97 + k.val - 32).toUInt8 = digZ (97 + (k.val : Int)) := by decide +kernel
  have := H ⟨(c - 97).toNat, by omega⟩
  have e1 : 97 + (c - 97).toNat - 32 = (c - 32).toNat := by omega
  have e2 : (97 : Int) + ((c - 97).toNat : Int) = c := by omega
  simp only [e1, e2] at this
  exact this

set_option maxRecDepth 100000 in
set_option maxHeartbeats 1000000 in
theorem digit_any (c : Int) (h0 : 0 ≤ c) (h1 : c < 256) (w : World) : Calls Tryd.prog 31 #[.int .u8 c] w fun e w' => e = .returned (.int .i64 (digZ c)) ∧ w' = w := by
  by_cases h : 97 ≤ c ∧ c ≤ 102
  · have H := Lib.hid (dig_lower c h)
    obtain ⟨ha, hb⟩ := h
    go_enter Tryd.func31, Tryd.ntmps31
    go_wp2_with (go_at_call 42; (with_reducible refine (Tryd.strings_IndexByte _ _ _).mono ?_); rintro e w1 ⟨rfl, rfl⟩)
    go_ret
    exact ⟨by rw [← H.out]; rfl, rfl⟩
  · have H := Lib.hid (dig_upper c h0 h1 h)
    by_cases ha : 97 ≤ c
    · have hb : ¬ c ≤ 102 := fun hh => h ⟨ha, hh⟩
      clear h
      go_enter Tryd.func31, Tryd.ntmps31
      go_wp2_with (go_at_call 42; (with_reducible refine (Tryd.strings_IndexByte _ _ _).mono ?_); rintro e w1 ⟨rfl, rfl⟩)
      go_ret
      exact ⟨by rw [← H.out]; rfl, rfl⟩
    · clear h
      go_enter Tryd.func31, Tryd.ntmps31
      go_wp2_with (go_at_call 42; (with_reducible refine (Tryd.strings_IndexByte _ _ _).mono ?_); rintro e w1 ⟨rfl, rfl⟩)
      go_ret
      exact ⟨by rw [← H.out]; rfl, rfl⟩

/-! ### The document's -/
theorem u8_small (x : Int) (h0 : 0 ≤ x) (h1 : x < 256) : IntKind.u8.wrap x = x := by
  have H : ∀ k : Fin 256, IntKind.u8.wrap (k.val : Int) = (k.val : Int) := by decide +kernel
  have := H ⟨x.toNat, by omega⟩
  simpa only [Int.toNat_of_nonneg h0] using this
set_option maxRecDepth 100000 in
set_option maxHeartbeats 1000000 in
theorem hexd_lo (n : Int) (h0 : 0 ≤ n) (h1 : n < 10) (w : World) : Calls Tryd.prog 34 #[.int .i64 n] w fun e w' => e = .returned (.int .u8 (48 + n)) ∧ w = w' := by
  have hw := u8_small (48 + n) (by omega) (by omega)
  go_enter Tryd.func34, Tryd.ntmps34
  go_wp2
  go_ret
  exact ⟨rfl, rfl⟩
set_option maxRecDepth 100000 in
set_option maxHeartbeats 1000000 in
theorem hexd_hi (n : Int) (h0 : 10 ≤ n) (h1 : n < 16) (w : World) : Calls Tryd.prog 34 #[.int .i64 n] w fun e w' => e = .returned (.int .u8 (65 + n - 10)) ∧ w = w' := by
  have hw := u8_small (65 + n - 10) (by omega) (by omega)
  go_enter Tryd.func34, Tryd.ntmps34
  go_wp2
  go_ret
  exact ⟨rfl, rfl⟩
end Go.Proofs.YtjfffkaifcajbaaDoor
