/-
  The document's Hex, walked.
-/
import Derived.Test.YtjfffkaifcajbaaDoorZSrcN
import Derived.Test.YtjfffkaifcajbaaDoorZMcL
namespace Go.Proofs.YtjfffkaifcajbaaDoor
set_option linter.unusedSimpArgs false
set_option linter.unusedVariables false
open Go.RowKit
set_option linter.unusedVariables false

theorem hexd_any (n : Nat) (h : n < 16) (w : World) : Calls Tryd.prog 34 #[.int .i64 (n : Int)] w fun e w' => e = .returned (.int .u8 ((digB n).toNat : Int)) ∧ w = w' := by
  by_cases h10 : n < 10
  · have e : ((digB n).toNat : Int) = 48 + (n : Int) := by
      unfold digB
      rw [if_pos h10, UInt8.toNat_ofNat']; omega
    rw [e]
    exact hexd_lo (n : Int) (by omega) (by omega) w
  · have e : ((digB n).toNat : Int) = 65 + (n : Int) - 10 := by
      unfold digB
      rw [if_neg h10, UInt8.toNat_ofNat']; omega
    rw [e]
    exact hexd_hi (n : Int) (by omega) (by omega) w
set_option maxRecDepth 100000 in
set_option maxHeartbeats 2000000 in
theorem rhex_any (l : List UInt8) (w : World) (hl : l.length ≤ 1000000) : Calls Tryd.prog 10 #[.string (bsl l)] w fun e w' => e = .returned (.string (bsl (hexB l))) ∧ Gr w w' := by
  have hsz := bsl_size l
  have HSZ := Lib.hid hsz
  clear hsz
  go_enter Tryd.func10, Tryd.ntmps10
  go_wp2_with fail
  go_loopw [3, 4] (fun v iv wr => ∃ (k n : Nat) (va : Option Addr) (cap : Nat), iv = .int .i64 (k : Int) ∧ k ≤ (bsl l).size ∧ n = 2 * k ∧ v = .slice va n cap ∧ wr.ownsRow w.heap.size 5 1 (.slice va n cap) n (Lib.byteCells (hexB (l.take k))) ∧ Gr w wr) (fun _ iv _ => (bsl l).size - (intOf iv).toNat)
  case atStart => exact ⟨0, 0, none, 0, rfl, Nat.zero_le _, rfl, rfl, by simpa [Lib.byteCells, hexB] using World.ownsRow_nil w w.heap.size 5 1, by (repeat (first | with_reducible exact Gr.refl _ | with_reducible assumption | with_reducible refine Gr.setCell ?_ (by simp; try omega) _ | with_reducible refine Gr.alloc ?_ _ | with_reducible refine Gr.drew ?_ | with_reducible refine Gr.drewN ?_ _ | with_reducible refine Gr.trans ?_ (by assumption)))⟩
  case round =>
    obtain ⟨k, n, va, cap, rfl, hk, hn, rfl, hown, hgr⟩ := hrel
    have hk0 : (0 : Int) ≤ (k : Int) := by omega
    by_cases hlt : k < (bsl l).size
    · have hI : (k : Int) < ((bsl l).size : Int) := by omega
      have hkl : k < l.length := by have := HSZ.out; omega
      have g1 := bsl_get hlt
      obtain ⟨c, hc⟩ : ∃ c, c = l[k] := ⟨_, rfl⟩
      rw [← hc] at g1
      have htk : hexB (l.take (k + 1)) = hexB (l.take k) ++ [digB (c.toNat / 16), digB (c.toNat % 16)] := by
        rw [List.take_succ_eq_append_getElem hkl, ← hc, hexB_snoc]
      have hcl := c.toNat_lt
      have c1 := hexd_any (c.toNat / 16) (by omega)
      have c2 := hexd_any (c.toNat % 16) (by omega)
      obtain ⟨A, hA⟩ : ∃ A : Int, A = ((c.toNat / 16 : Nat) : Int) := ⟨_, rfl⟩
      obtain ⟨B, hB⟩ : ∃ B : Int, B = ((c.toNat % 16 : Nat) : Int) := ⟨_, rfl⟩
      have hq : Int.tdiv (c.toNat : Int) 16 = A := by rw [hA, Int.tdiv_eq_ediv_of_nonneg (by omega)]; omega
      have hr : Int.tmod (c.toNat : Int) 16 = B := by rw [hB, Int.tmod_eq_emod_of_nonneg (by omega)]; omega
      have hA1 : IntKind.i64.wrap A = A := IntWalk.i64_in _ (by omega)
      have hB1 : IntKind.i64.wrap B = B := IntWalk.i64_in _ (by omega)
      have hC1 : IntKind.i64.wrap (c.toNat : Int) = (c.toNat : Int) := IntWalk.i64_in _ (by omega)
      rw [← hA] at c1
      rw [← hB] at c2
      obtain ⟨x, hx⟩ : ∃ x, x = digB (c.toNat / 16) := ⟨_, rfl⟩
      obtain ⟨y, hy⟩ : ∃ y, y = digB (c.toNat % 16) := ⟨_, rfl⟩
      rw [← hx] at c1 htk
      rw [← hy] at c2 htk
      have HTK := Lib.hid htk
      have HN := Lib.hid hn
      have hnb : n ≤ 2000000 := by have := HSZ.out; omega
      have hkb : k ≤ 1000000 := by have := HSZ.out; omega
      have e9 : IntKind.i64.wrap ((k : Int) + 1) = (k : Int) + 1 := IntWalk.i64_in _ (by omega)
      clear htk hA hB hx hy hn hc hkl
      go_wp2_with fail
      go_region_held3 (fun w9 => Gr w w9)
        ((refine (fun hg => hg) ?_; (repeat (first | with_reducible exact Gr.refl _ | with_reducible assumption | with_reducible refine Gr.setCell ?_ (by simp; try omega) _ | with_reducible refine Gr.alloc ?_ _ | with_reducible refine Gr.drew ?_ | with_reducible refine Gr.drewN ?_ _ | with_reducible refine Gr.trans ?_ (by assumption)))))
        (first
          | (go_at_call 34; (first | (with_reducible refine (c1 _).mono ?_) | (with_reducible refine (c2 _).mono ?_)); rintro e w1 ⟨rfl, rfl⟩)
          | (refine step_add (w0 := w) (by rfl) _ _ _ _ (by rfl) 5 _ 1 mcT mcI rfl (by omega) _ n _ (by rfl) (ownsRow_gr hown (by (repeat (first | with_reducible exact Gr.refl _ | with_reducible assumption | with_reducible refine Gr.setCell ?_ (by simp; try omega) _ | with_reducible refine Gr.alloc ?_ _ | with_reducible refine Gr.drew ?_ | with_reducible refine Gr.drewN ?_ _ | with_reducible refine Gr.trans ?_ (by assumption))))) (by (repeat (first | with_reducible exact Gr.refl _ | with_reducible assumption | with_reducible refine Gr.setCell ?_ (by simp; try omega) _ | with_reducible refine Gr.alloc ?_ _ | with_reducible refine Gr.drew ?_ | with_reducible refine Gr.drewN ?_ _ | with_reducible refine Gr.trans ?_ (by assumption)))) _ 2 [.int .u8 x.toNat, .int .u8 y.toNat] (by rfl) (src_block mcT _ (heap_alloc_new _ _) rfl (by simp [Value.oneCell'])) (by omega) ?_; intro va2 cap2 w3 hown3 hg3))
      all_goals go_wp2_with fail
      all_goals exact ⟨⟨k + 1, n + 2, va2, cap2, by go_num, by omega, by have := HN.out; omega, rfl, by rw [HTK.out]; simpa [Lib.byteCells] using hown3, hg3⟩, by simp [intOf]; omega⟩
    · obtain rfl : k = (bsl l).size := by omega
      have hI : ¬ ((bsl l).size : Int) < ((bsl l).size : Int) := by omega
      have hcv := conv_own hown
      rw [HSZ.out, List.take_length] at hcv
      clear hn hown
      go_wp2_with fail
      go_ret
      exact ⟨rfl, by (repeat (first | with_reducible exact Gr.refl _ | with_reducible assumption | with_reducible refine Gr.setCell ?_ (by simp; try omega) _ | with_reducible refine Gr.alloc ?_ _ | with_reducible refine Gr.drew ?_ | with_reducible refine Gr.drewN ?_ _ | with_reducible refine Gr.trans ?_ (by assumption)))⟩
end Go.Proofs.YtjfffkaifcajbaaDoor
