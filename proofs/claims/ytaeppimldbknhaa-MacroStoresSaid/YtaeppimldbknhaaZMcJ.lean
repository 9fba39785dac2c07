/-
  Digits and repeats as bytes: the document's text.
-/
import Derived.Test.YtaeppimldbknhaaZMcI
namespace Go.Proofs.Ytaeppimldbknhaa
set_option linter.unusedSimpArgs false
set_option linter.unusedVariables false
open Go.RowKit
set_option linter.unusedVariables false

theorem drop_one {l : List UInt8} {k : Nat} (h : k < l.length) : l.drop k = l[k] :: l.drop (k + 1) := List.drop_eq_getElem_cons h
/-- How far the next semicolon is. -/
def twL (l : List UInt8) : Nat := (l.takeWhile (· ≠ 59)).length
theorem twL_cons_ne (c : UInt8) (r : List UInt8) (h : c ≠ 59) : twL (c :: r) = twL r + 1 := by simp [twL, h]
theorem twL_cons_eq (r : List UInt8) : twL (59 :: r) = 0 := by simp [twL]
theorem twL_le (l : List UInt8) : twL l ≤ l.length := (List.takeWhile_prefix (p := fun x : UInt8 => decide (x ≠ 59)) (l := l)).length_le
theorem semR_parts (l : List UInt8) : (semR l).1 = l.take (twL l) ∧ (semR l).2 = l.drop (twL l + 1) := by
  obtain ⟨m1, m2, m3⟩ := mem_split l
  unfold semR twL
  refine ⟨m2.symm, ?_⟩
  by_cases hm : (59 : UInt8) ∈ l
  · exact (m1 hm).symm
  · obtain ⟨h1, h2⟩ := m3 hm
    simp only [h1, h2]
    exact (List.drop_of_length_le (by omega)).symm
theorem byte_ne {c : UInt8} (k : Nat) (hk : k < 256) (h : c ≠ UInt8.ofNat k) : ((c.toNat : Int) != (k : Int)) = true := by
  simp only [bne_iff_ne, ne_eq]
  intro h2
  apply h
  apply UInt8.toNat_inj.1
  rw [UInt8.toNat_ofNat']
  omega

set_option maxRecDepth 100000 in
set_option maxHeartbeats 2000000 in
theorem semi_any (l : List UInt8) (a : Nat) (w : World) (ha : a ≤ l.length) (hl : l.length ≤ 1000000) : Calls Try.prog 27 #[.string (bsl l), .int .i64 (a : Int)] w fun e w' => e = .returned (.int .i64 ((a + twL (l.drop a) : Nat) : Int)) ∧ w = w' := by
  have hsz := bsl_size l
  obtain ⟨E, hE⟩ : ∃ E, E = a + twL (l.drop a) := ⟨_, rfl⟩
  rw [← hE]
  have HE := Lib.hid hE; have HSZ := Lib.hid hsz
  clear hE hsz
  go_enter Try.func27, Try.ntmps27
  go_wp2_with fail
  go_loop [1] (fun iv => ∃ k : Nat, k ≤ (bsl l).size ∧ iv = .int .i64 (k : Int) ∧ Hid (k + twL (l.drop k) = E)) (fun iv => (bsl l).size - (intOf iv).toNat)
  case atStart => exact ⟨a, by rw [HSZ.out]; exact ha, rfl, Lib.hid HE.out.symm⟩
  case round =>
    obtain ⟨k, hk, rfl, HK⟩ := hrel
    by_cases hlt : k < (bsl l).size
    · have hI : (k : Int) < ((bsl l).size : Int) := by omega
      have hlt2 : k < l.length := by have := HSZ.out; omega
      have hb : (k : Int) ≤ 1000000 := by omega
      obtain ⟨c, hgc⟩ : ∃ c, (bsl l)[k]'hlt = c := ⟨_, rfl⟩
      have hd : l.drop k = c :: l.drop (k + 1) := by rw [← hgc, bsl_get hlt]; exact drop_one hlt2
      have HD := Lib.hid hd
      clear hd
      by_cases h59 : c = 59
      · subst h59
        have h1 : ((UInt8.toNat 59 : Int) != 59) = false := by decide
        have he : E = k := by have := HK.out; rw [HD.out, twL_cons_eq] at this; omega
        subst he
        go_wp2_with fail
        go_ret
        exact ⟨rfl, rfl⟩
      · have h1 : ((c.toNat : Int) != 59) = true := byte_ne 59 (by omega) h59
        have he := HK.out
        rw [HD.out, twL_cons_ne _ _ h59] at he
        have HK2 : Hid (k + 1 + twL (l.drop (k + 1)) = E) := by apply Lib.hid; omega
        clear he
        go_wp2_with fail
        go_round
        case rel => exact ⟨k + 1, by omega, by go_num, HK2⟩
        case measure => simp [intOf]; omega
    · have hk2 : k = (bsl l).size := by omega
      have he : E = k := by
        have h1 := HK.out
        have h2 := twL_le (l.drop k)
        rw [List.length_drop] at h2
        have := HSZ.out
        omega
      subst he
      clear hk2
      have hI : ¬ (E : Int) < ((bsl l).size : Int) := by omega
      go_wp2_with fail
      go_ret
      exact ⟨rfl, rfl⟩
end Go.Proofs.Ytaeppimldbknhaa
