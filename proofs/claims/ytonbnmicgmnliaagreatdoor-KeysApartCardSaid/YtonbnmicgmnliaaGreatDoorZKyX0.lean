/-
  The law KeysApart: unlike function and editing keys send unlike sequences; walked (gen_kyx.py).
-/
import Derived.Test.YtonbnmicgmnliaaGreatDoorZPdF
import Derived.Test.YtonbnmicgmnliaaGreatDoorZOrd6
import Derived.Test.YtonbnmicgmnliaaGreatDoorZTkO
import Derived.Test.YtonbnmicgmnliaaGreatDoorZRyS
import Derived.Test.YtonbnmicgmnliaaGreatDoorZKyF
namespace Go.Proofs.YtonbnmicgmnliaaGreatDoor
set_option linter.unusedSimpArgs false
set_option linter.unusedVariables false
open Go.RowKit
set_option linter.unusedVariables false

set_option maxRecDepth 100000 in
set_option maxHeartbeats 8000000 in
theorem rnum_any (n : Int) (w : World) : Calls Tryz.prog 5 #[.int .i64 n] w fun e w' => e = .returned (.int .i64 (numK n)) ∧ Gr w w' := by
  have hc : (n < 6 ∧ numK n = 0) ∨ (6 ≤ n ∧ 20 < n ∧ numK n = 0) ∨ n = 6 ∨ n = 7 ∨ n = 8 ∨ n = 9 ∨ n = 10 ∨ n = 11 ∨ n = 12 ∨ n = 13 ∨ n = 14 ∨ n = 15 ∨ n = 16 ∨ n = 17 ∨ n = 18 ∨ n = 19 ∨ n = 20 := by
    unfold numK; split <;> omega
  rcases hc with ⟨h1, he⟩ | ⟨h1, h2, he⟩ | rfl | rfl | rfl | rfl | rfl | rfl | rfl | rfl | rfl | rfl | rfl | rfl | rfl | rfl | rfl
  · rw [he]
    clear he
    go_enter Tryz.func5, Tryz.ntmps5
    go_wp2_with fail
    go_ret
    exact ⟨rfl, by (repeat (first | with_reducible exact Gr.refl _ | with_reducible assumption | with_reducible refine Gr.setCell ?_ (by simp; try omega) _ | with_reducible refine Gr.alloc ?_ _ | with_reducible refine Gr.drew ?_ | with_reducible refine Gr.drewN ?_ _ | with_reducible refine Gr.trans ?_ (by assumption)))⟩
  · rw [he]
    clear he
    go_enter Tryz.func5, Tryz.ntmps5
    go_wp2_with fail
    go_ret
    exact ⟨rfl, by (repeat (first | with_reducible exact Gr.refl _ | with_reducible assumption | with_reducible refine Gr.setCell ?_ (by simp; try omega) _ | with_reducible refine Gr.alloc ?_ _ | with_reducible refine Gr.drew ?_ | with_reducible refine Gr.drewN ?_ _ | with_reducible refine Gr.trans ?_ (by assumption)))⟩
  · show Calls _ _ _ _ fun e w' => e = .returned (.int .i64 17) ∧ Gr w w'
    go_enter Tryz.func5, Tryz.ntmps5
    go_wp2_with fail
    go_ret
    exact ⟨rfl, by (repeat (first | with_reducible exact Gr.refl _ | with_reducible assumption | with_reducible refine Gr.setCell ?_ (by simp; try omega) _ | with_reducible refine Gr.alloc ?_ _ | with_reducible refine Gr.drew ?_ | with_reducible refine Gr.drewN ?_ _ | with_reducible refine Gr.trans ?_ (by assumption)))⟩
  · show Calls _ _ _ _ fun e w' => e = .returned (.int .i64 18) ∧ Gr w w'
    go_enter Tryz.func5, Tryz.ntmps5
    go_wp2_with fail
    go_ret
    exact ⟨rfl, by (repeat (first | with_reducible exact Gr.refl _ | with_reducible assumption | with_reducible refine Gr.setCell ?_ (by simp; try omega) _ | with_reducible refine Gr.alloc ?_ _ | with_reducible refine Gr.drew ?_ | with_reducible refine Gr.drewN ?_ _ | with_reducible refine Gr.trans ?_ (by assumption)))⟩
  · show Calls _ _ _ _ fun e w' => e = .returned (.int .i64 19) ∧ Gr w w'
    go_enter Tryz.func5, Tryz.ntmps5
    go_wp2_with fail
    go_ret
    exact ⟨rfl, by (repeat (first | with_reducible exact Gr.refl _ | with_reducible assumption | with_reducible refine Gr.setCell ?_ (by simp; try omega) _ | with_reducible refine Gr.alloc ?_ _ | with_reducible refine Gr.drew ?_ | with_reducible refine Gr.drewN ?_ _ | with_reducible refine Gr.trans ?_ (by assumption)))⟩
  · show Calls _ _ _ _ fun e w' => e = .returned (.int .i64 20) ∧ Gr w w'
    go_enter Tryz.func5, Tryz.ntmps5
    go_wp2_with fail
    go_ret
    exact ⟨rfl, by (repeat (first | with_reducible exact Gr.refl _ | with_reducible assumption | with_reducible refine Gr.setCell ?_ (by simp; try omega) _ | with_reducible refine Gr.alloc ?_ _ | with_reducible refine Gr.drew ?_ | with_reducible refine Gr.drewN ?_ _ | with_reducible refine Gr.trans ?_ (by assumption)))⟩
  · show Calls _ _ _ _ fun e w' => e = .returned (.int .i64 21) ∧ Gr w w'
    go_enter Tryz.func5, Tryz.ntmps5
    go_wp2_with fail
    go_ret
    exact ⟨rfl, by (repeat (first | with_reducible exact Gr.refl _ | with_reducible assumption | with_reducible refine Gr.setCell ?_ (by simp; try omega) _ | with_reducible refine Gr.alloc ?_ _ | with_reducible refine Gr.drew ?_ | with_reducible refine Gr.drewN ?_ _ | with_reducible refine Gr.trans ?_ (by assumption)))⟩
  · show Calls _ _ _ _ fun e w' => e = .returned (.int .i64 23) ∧ Gr w w'
    go_enter Tryz.func5, Tryz.ntmps5
    go_wp2_with fail
    go_ret
    exact ⟨rfl, by (repeat (first | with_reducible exact Gr.refl _ | with_reducible assumption | with_reducible refine Gr.setCell ?_ (by simp; try omega) _ | with_reducible refine Gr.alloc ?_ _ | with_reducible refine Gr.drew ?_ | with_reducible refine Gr.drewN ?_ _ | with_reducible refine Gr.trans ?_ (by assumption)))⟩
  · show Calls _ _ _ _ fun e w' => e = .returned (.int .i64 24) ∧ Gr w w'
    go_enter Tryz.func5, Tryz.ntmps5
    go_wp2_with fail
    go_ret
    exact ⟨rfl, by (repeat (first | with_reducible exact Gr.refl _ | with_reducible assumption | with_reducible refine Gr.setCell ?_ (by simp; try omega) _ | with_reducible refine Gr.alloc ?_ _ | with_reducible refine Gr.drew ?_ | with_reducible refine Gr.drewN ?_ _ | with_reducible refine Gr.trans ?_ (by assumption)))⟩
  · show Calls _ _ _ _ fun e w' => e = .returned (.int .i64 25) ∧ Gr w w'
    go_enter Tryz.func5, Tryz.ntmps5
    go_wp2_with fail
    go_ret
    exact ⟨rfl, by (repeat (first | with_reducible exact Gr.refl _ | with_reducible assumption | with_reducible refine Gr.setCell ?_ (by simp; try omega) _ | with_reducible refine Gr.alloc ?_ _ | with_reducible refine Gr.drew ?_ | with_reducible refine Gr.drewN ?_ _ | with_reducible refine Gr.trans ?_ (by assumption)))⟩
  · show Calls _ _ _ _ fun e w' => e = .returned (.int .i64 26) ∧ Gr w w'
    go_enter Tryz.func5, Tryz.ntmps5
    go_wp2_with fail
    go_ret
    exact ⟨rfl, by (repeat (first | with_reducible exact Gr.refl _ | with_reducible assumption | with_reducible refine Gr.setCell ?_ (by simp; try omega) _ | with_reducible refine Gr.alloc ?_ _ | with_reducible refine Gr.drew ?_ | with_reducible refine Gr.drewN ?_ _ | with_reducible refine Gr.trans ?_ (by assumption)))⟩
  · show Calls _ _ _ _ fun e w' => e = .returned (.int .i64 28) ∧ Gr w w'
    go_enter Tryz.func5, Tryz.ntmps5
    go_wp2_with fail
    go_ret
    exact ⟨rfl, by (repeat (first | with_reducible exact Gr.refl _ | with_reducible assumption | with_reducible refine Gr.setCell ?_ (by simp; try omega) _ | with_reducible refine Gr.alloc ?_ _ | with_reducible refine Gr.drew ?_ | with_reducible refine Gr.drewN ?_ _ | with_reducible refine Gr.trans ?_ (by assumption)))⟩
  · show Calls _ _ _ _ fun e w' => e = .returned (.int .i64 29) ∧ Gr w w'
    go_enter Tryz.func5, Tryz.ntmps5
    go_wp2_with fail
    go_ret
    exact ⟨rfl, by (repeat (first | with_reducible exact Gr.refl _ | with_reducible assumption | with_reducible refine Gr.setCell ?_ (by simp; try omega) _ | with_reducible refine Gr.alloc ?_ _ | with_reducible refine Gr.drew ?_ | with_reducible refine Gr.drewN ?_ _ | with_reducible refine Gr.trans ?_ (by assumption)))⟩
  · show Calls _ _ _ _ fun e w' => e = .returned (.int .i64 31) ∧ Gr w w'
    go_enter Tryz.func5, Tryz.ntmps5
    go_wp2_with fail
    go_ret
    exact ⟨rfl, by (repeat (first | with_reducible exact Gr.refl _ | with_reducible assumption | with_reducible refine Gr.setCell ?_ (by simp; try omega) _ | with_reducible refine Gr.alloc ?_ _ | with_reducible refine Gr.drew ?_ | with_reducible refine Gr.drewN ?_ _ | with_reducible refine Gr.trans ?_ (by assumption)))⟩
  · show Calls _ _ _ _ fun e w' => e = .returned (.int .i64 32) ∧ Gr w w'
    go_enter Tryz.func5, Tryz.ntmps5
    go_wp2_with fail
    go_ret
    exact ⟨rfl, by (repeat (first | with_reducible exact Gr.refl _ | with_reducible assumption | with_reducible refine Gr.setCell ?_ (by simp; try omega) _ | with_reducible refine Gr.alloc ?_ _ | with_reducible refine Gr.drew ?_ | with_reducible refine Gr.drewN ?_ _ | with_reducible refine Gr.trans ?_ (by assumption)))⟩
  · show Calls _ _ _ _ fun e w' => e = .returned (.int .i64 33) ∧ Gr w w'
    go_enter Tryz.func5, Tryz.ntmps5
    go_wp2_with fail
    go_ret
    exact ⟨rfl, by (repeat (first | with_reducible exact Gr.refl _ | with_reducible assumption | with_reducible refine Gr.setCell ?_ (by simp; try omega) _ | with_reducible refine Gr.alloc ?_ _ | with_reducible refine Gr.drew ?_ | with_reducible refine Gr.drewN ?_ _ | with_reducible refine Gr.trans ?_ (by assumption)))⟩
  · show Calls _ _ _ _ fun e w' => e = .returned (.int .i64 34) ∧ Gr w w'
    go_enter Tryz.func5, Tryz.ntmps5
    go_wp2_with fail
    go_ret
    exact ⟨rfl, by (repeat (first | with_reducible exact Gr.refl _ | with_reducible assumption | with_reducible refine Gr.setCell ?_ (by simp; try omega) _ | with_reducible refine Gr.alloc ?_ _ | with_reducible refine Gr.drew ?_ | with_reducible refine Gr.drewN ?_ _ | with_reducible refine Gr.trans ?_ (by assumption)))⟩
def nK (k c : Int) : Int := if k = 16 then numK c else k - 8
def apL (n : Int) (e : Bool) : List Int := csiR [126] [n] e
def apF (n : Int) (e : Bool) : List Int := (if e = true then [155] else [27, 91]) ++ ((if n < 10 then [48 + n] else [48 + n / 10, 48 + n % 10]) ++ [126])
theorem ap_fin : ∀ n : Fin 35, ∀ e : Bool, (apL (n.val : Int) e == apF (n.val : Int) e && (feedM PS.init (apF (n.val : Int) e)).2.length == 1) = true := by decide +kernel
theorem ap_eq {n : Int} (h0 : 0 < n) (h1 : n ≤ 34) (e : Bool) : apL n e = apF n e ∧ (feedM PS.init (apL n e)).2.length = 1 := by
  have := ap_fin ⟨n.toNat, by omega⟩ e
  rw [show ((n.toNat : Nat) : Int) = n by omega, Bool.and_eq_true] at this
  have h2 : apL n e = apF n e := by simpa using this.1
  exact ⟨h2, by rw [h2]; simpa using this.2⟩
theorem ap_inj {n m : Int} (h0 : 0 < n) (h1 : n ≤ 34) (k0 : 0 < m) (k1 : m ≤ 34) {e : Bool} (h : apL n e = apL m e) : n = m := by
  rw [(ap_eq h0 h1 e).1, (ap_eq k0 k1 e).1] at h
  unfold apF at h
  have h := List.append_cancel_left h
  split at h <;> split at h
  · simp at h; omega
  · simp at h
  · simp at h
  · simp at h; omega
theorem ap_in {n : Int} (h0 : 0 < n) (h1 : n ≤ 34) (e : Bool) : ∀ c ∈ apL n e, 0 ≤ c ∧ c < 256 := by
  rw [(ap_eq h0 h1 e).1]
  unfold apF
  intro c hc
  by_cases hn : n < 10
  · rw [if_pos hn] at hc
    cases e <;> simp at hc <;> omega
  · rw [if_neg hn] at hc
    cases e <;> simp at hc <;> omega
def okA (k c : Int) : Prop := (9 ≤ k ∧ k ≤ 14) ∨ (k = 16 ∧ 0 < numK c)
theorem num_in {c : Int} (h : 0 < numK c) : 6 ≤ c ∧ c ≤ 20 ∧ 17 ≤ numK c ∧ numK c ≤ 34 := by
  unfold numK at h ⊢
  split at h
  · omega
  · split at h
    · rw [if_neg (by omega), if_pos (by omega)]; omega
    · split at h
      · rw [if_neg (by omega), if_neg (by omega), if_pos (by omega)]; omega
      · split at h
        · rw [if_neg (by omega), if_neg (by omega), if_neg (by omega), if_pos (by omega)]; omega
        · rw [if_neg (by omega), if_neg (by omega), if_neg (by omega), if_neg (by omega)]; omega
theorem num_inj {c d : Int} (hc : 0 < numK c) (hd : 0 < numK d) (h : numK c = numK d) : c = d := by
  have h1 := num_in hc
  have h2 := num_in hd
  have hcs : ∀ x : Int, 6 ≤ x → x ≤ 20 → (x ≤ 10 ∧ numK x = x + 11) ∨ (10 < x ∧ x ≤ 14 ∧ numK x = x + 12) ∨ (14 < x ∧ x ≤ 16 ∧ numK x = x + 13) ∨ (16 < x ∧ numK x = x + 14) := by
    intro x h1 h2
    unfold numK
    rw [if_neg (by omega)]
    split
    · omega
    · split
      · omega
      · split <;> omega
  have h3 := hcs c h1.1 h1.2.1
  have h4 := hcs d h2.1 h2.2.1
  omega
theorem nK_in {k c : Int} (h : okA k c) : 0 < nK k c ∧ nK k c ≤ 34 := by
  unfold nK
  rcases h with ⟨h1, h2⟩ | ⟨rfl, h1⟩
  · rw [if_neg (by omega)]; omega
  · rw [if_pos rfl]; have := num_in h1; omega
theorem nK_same {k c k' c' : Int} (h : okA k c) (h' : okA k' c') : nK k c = nK k' c' ↔ (k = k' ∧ (k ≠ 16 ∨ c = c')) := by
  unfold nK
  rcases h with ⟨h1, h2⟩ | ⟨rfl, h1⟩ <;> rcases h' with ⟨h3, h4⟩ | ⟨rfl, h3⟩
  · rw [if_neg (by omega), if_neg (by omega)]; omega
  · rw [if_neg (by omega), if_pos rfl]; have := num_in h3; omega
  · rw [if_pos rfl, if_neg (by omega)]; have := num_in h1; omega
  · rw [if_pos rfl, if_pos rfl]
    constructor
    · intro h; exact ⟨rfl, .inr (num_inj h1 h3 h)⟩
    · rintro ⟨_, h⟩
      rcases h with h | h
      · omega
      · rw [h]
theorem enc_ap {k c : Int} (ct : Bool) (e : Bool) (h : okA k c) : encK k (if k = 16 then c else 0) false ct (hasB 0#32 0) (hasB 0#32 3) (hasB 0#32 4) (hasB 0#32 12) (hasB 0#32 13) 2 e noL = apL (nK k c) e := by
  have h0 : hasB 0#32 0 = false := by decide
  unfold encK kindK nK apL
  rcases h with ⟨h1, h2⟩ | ⟨rfl, h1⟩
  · rw [if_neg (by rw [h0]; simp; omega), if_neg (by omega), if_neg (by omega), if_neg (by omega), if_neg (by omega), if_neg (by omega), if_neg (by omega), if_pos (by omega), if_neg (by omega)]
    unfold editK
    rw [if_neg (by omega)]
  · have h2 := num_in h1
    rw [if_neg (by rw [h0]; simp), if_neg (by omega), if_neg (by omega), if_neg (by omega), if_neg (by omega), if_neg (by omega), if_neg (by omega), if_neg (by omega), if_neg (by omega), if_pos rfl, if_pos rfl]
    unfold fK
    rw [if_neg (by omega), if_neg (by omega), if_neg (by omega), if_neg (by omega), if_neg (by omega), if_neg (by decide)]
end Go.Proofs.YtonbnmicgmnliaaGreatDoor
