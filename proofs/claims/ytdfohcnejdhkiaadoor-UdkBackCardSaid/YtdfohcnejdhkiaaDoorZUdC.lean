/-
  Keys with texts: is and key of the program.
-/
import Derived.Test.YtdfohcnejdhkiaaDoorZUdB
namespace Go.Proofs.YtdfohcnejdhkiaaDoor
set_option linter.unusedSimpArgs false
set_option linter.unusedVariables false
open Go.RowKit
set_option linter.unusedVariables false

/-- Is a number a key's? -/
def isZ (n : Int) : Bool := decide (17 ≤ n) && decide (n ≤ 34) && decide (n ≠ 22) && decide (n ≠ 27) && decide (n ≠ 30)
theorem isZ_nat (n : Nat) : isZ (n : Int) = isK n := by
  rw [Bool.eq_iff_iff]
  unfold isZ isK
  simp only [Bool.and_eq_true, decide_eq_true_eq]
  omega
theorem isZ_form {n : Int} (h : isZ n = true) : ∃ m : Nat, n = m ∧ isK m = true ∧ 17 ≤ m ∧ m ≤ 34 := by
  have h0 : 17 ≤ n := by
    unfold isZ at h
    simp only [Bool.and_eq_true, decide_eq_true_eq] at h
    omega
  refine ⟨n.toNat, by omega, ?_⟩
  have e : n = (n.toNat : Int) := by omega
  rw [e, isZ_nat] at h
  exact ⟨h, isK_in h⟩
set_option maxHeartbeats 400000 in
theorem is_any (n : Int) (w : World) : Calls Tryd.prog 27 #[.int .i64 n] w fun e w' => e = .returned (.bool (isZ n)) ∧ w = w' := by
  obtain ⟨b, hb⟩ : ∃ b, b = isZ n := ⟨_, rfl⟩
  rw [← hb]
  have HB := Lib.hid hb
  clear hb
  by_cases h : n = 22 ∨ n = 27 ∨ n = 30
  · have hf : b = false := by
      rw [HB.out]; unfold isZ
      rcases h with rfl | rfl | rfl <;> decide
    subst hf
    rcases h with rfl | rfl | rfl
    all_goals
      go_enter Tryd.func27, Tryd.ntmps27
      go_wp2
      go_ret
      exact ⟨rfl, rfl⟩
  · have h1 : (n == 22) = false := by simp; omega
    have h2 : (n == 27) = false := by simp; omega
    have h3 : (n == 30) = false := by simp; omega
    have hv : b = (decide (17 ≤ n) && decide (n ≤ 34)) := by
      rw [HB.out, Bool.eq_iff_iff]; unfold isZ
      simp only [Bool.and_eq_true, decide_eq_true_eq]
      omega
    have HV := Lib.hid hv
    clear hv h
    by_cases h4 : 17 ≤ n
    · go_enter Tryd.func27, Tryd.ntmps27
      go_wp2
      go_ret
      exact ⟨by rw [HV.out]; simp [h4] <;> omega, rfl⟩
    · go_enter Tryd.func27, Tryd.ntmps27
      go_wp2
      go_ret
      exact ⟨by rw [HV.out]; simp [h4] <;> omega, rfl⟩
theorem keyA (m : Nat) (c : UInt8) (h : 48 ≤ c.toNat) : min ((m : Int) * 10 + ((c.toNat : Int) - 48)) 68 = ((min (m * 10 + (c.toNat - 48)) 68 : Nat) : Int) := by omega
/-- What key answers. -/
def keyV (q : List UInt8) : Value := if q.all isDg = true then .tuple #[.int .i64 (valK 68 q : Nat), .bool (isK (valK 68 q))] else .tuple #[.int .i64 0, .bool false]
set_option maxRecDepth 100000 in
set_option maxHeartbeats 2000000 in
theorem key_any (q : List UInt8) (w : World) (hl : q.length ≤ 1000000) : Calls Tryd.prog 32 #[.string (bsl q)] w fun e w' => e = .returned (keyV q) ∧ w = w' := by
  obtain ⟨R, hR⟩ : ∃ R, R = keyV q := ⟨_, rfl⟩
  rw [← hR]
  have HR := Lib.hid hR
  clear hR
  have hg0 := fun (x : Nat) (h : x < (bsl q).size) => bsl_get (l := q) h
  have hsz := bsl_size q
  obtain ⟨t, ht⟩ : ∃ t, t = bsl q := ⟨_, rfl⟩
  rw [← ht]
  have hg1 : ∀ (x : Nat) (h : x < t.size) (h' : x < q.length), t[x]'h = q[x]'h' := by subst ht; exact fun x h _ => hg0 x h
  have HG := Lib.hid hg1
  clear hg1
  rw [← ht] at hsz
  have HT := Lib.hid ht
  clear ht hg0
  have hszb : t.size ≤ 1000000 := by omega
  have HSZ := Lib.hid hsz
  clear hsz
  go_enter Tryd.func32, Tryd.ntmps32
  go_wp2_with fail
  go_loopw [8, 4] (fun iv nv wr => ∃ k : Nat, iv = .int .i64 (k : Int) ∧ k ≤ t.size ∧ nv = .int .i64 (valK 68 (q.take k) : Nat) ∧ Hid ((q.take k).all isDg = true) ∧ wr = w) (fun iv _ _ => t.size - (intOf iv).toNat)
  case atStart => exact ⟨0, rfl, Nat.zero_le _, by simp [valK], Lib.hid (by simp), rfl⟩
  case round =>
    obtain ⟨k, rfl, hk, rfl, HA, rfl⟩ := hrel
    by_cases hlt : k < t.size
    · have hki : (k : Int) < (t.size : Int) := by omega
      have hkq : k < q.length := by have := HSZ.out; omega
      have hg := HG.out k hlt hkq
      obtain ⟨c, hc⟩ : ∃ c, c = q[k] := ⟨_, rfl⟩
      rw [← hc] at hg
      have htk : q.take (k + 1) = q.take k ++ [c] := by rw [List.take_succ_eq_append_getElem hkq, hc]
      have hcq : c ∈ q := by rw [hc]; exact List.getElem_mem hkq
      obtain ⟨m, hm⟩ : ∃ m, m = valK 68 (q.take k) := ⟨_, rfl⟩
      have hml : m ≤ 68 := by rw [hm]; exact valK_le _ _
      rw [← hm]
      have hv : valK 68 (q.take (k + 1)) = min (m * 10 + (c.toNat - 48)) 68 := by rw [htk, valK_snoc, hm]
      have hall : (q.take (k + 1)).all isDg = isDg c := by rw [htk, List.all_append, HA.out]; simp
      have hbad : isDg c = false → R = .tuple #[.int .i64 0, .bool false] := by
        intro h
        rw [HR.out]
        unfold keyV
        rw [if_neg]
        intro ha
        have := List.all_eq_true.1 ha c hcq
        rw [h] at this; cases this
      have HV := Lib.hid hv
      have HALL := Lib.hid hall
      have HBAD := Lib.hid hbad
      clear hv hall hbad hm hc htk hcq
      have hcl := c.toNat_lt
      by_cases hd : 48 ≤ c.toNat ∧ c.toNat ≤ 57
      · have hisd : isDg c = true := by unfold isDg; simp [hd.1, hd.2]
        have h1 : ¬ (c.toNat : Int) < 48 := by omega
        have h2 : ¬ (57 : Int) < (c.toNat : Int) := by omega
        have h1' : ¬ c.toNat < 48 := by omega
        have h2' : ¬ 57 < c.toNat := by omega
        have e1 : IntKind.i64.wrap ((m : Int) * 10) = (m : Int) * 10 := IntWalk.i64_in _ (by omega)
        have e2 : IntKind.u8.wrap ((c.toNat : Int) - 48) = (c.toNat : Int) - 48 := u8_small _ (by omega) (by omega)
        have e3 : IntKind.i64.wrap ((c.toNat : Int) - 48) = (c.toNat : Int) - 48 := IntWalk.i64_in _ (by omega)
        have e4 : IntKind.i64.wrap ((m : Int) * 10 + ((c.toNat : Int) - 48)) = (m : Int) * 10 + ((c.toNat : Int) - 48) := IntWalk.i64_in _ (by omega)
        have hmin := keyA m c hd.1
        rw [← HV.out] at hmin
        have HISD := Lib.hid hisd
        clear hd hisd
        go_wp2_with fail
        go_roundw
        case rel => exact ⟨k + 1, by go_num, by omega, rfl, Lib.hid (by rw [HALL.out]; exact HISD.out), by first | rfl | trivial⟩
        case measure => simp [intOf]; omega
      · have hres := HBAD.out (by unfold isDg; rw [Bool.and_eq_false_iff]; simp only [decide_eq_false_iff_not]; omega)
        have HRES := Lib.hid hres
        clear hres
        by_cases h1 : c.toNat < 48
        · have h1' : (c.toNat : Int) < 48 := by omega
          clear hd
          go_wp2_with fail
          go_ret2
          exact ⟨by rw [HRES.out]; rfl, rfl⟩
        · have h1' : ¬ (c.toNat : Int) < 48 := by omega
          have h2 : 57 < c.toNat := by omega
          have h2' : (57 : Int) < (c.toNat : Int) := by omega
          clear hd
          go_wp2_with fail
          go_ret2
          exact ⟨by rw [HRES.out]; rfl, rfl⟩
    · obtain rfl : k = t.size := by omega
      have hres : R = .tuple #[.int .i64 (valK 68 q : Nat), .bool (isK (valK 68 q))] := by
        have ha := HA.out
        rw [HSZ.out, List.take_length] at ha
        rw [HR.out]; unfold keyV; rw [if_pos ha]
      have htk : q.take t.size = q := by rw [HSZ.out, List.take_length]
      rw [htk]
      have hvl := valK_le 68 q
      have HRES := Lib.hid hres
      clear hres htk HA
      go_wp2_with (go_at_call 27; (with_reducible refine (is_any _ _).mono ?_); rw [isZ_nat]; rintro e w1 ⟨rfl, rfl⟩)
      go_ret2
      exact ⟨by rw [HRES.out]; rfl, rfl⟩
end Go.Proofs.YtdfohcnejdhkiaaDoor
