/-
  What is reported of the sets at hand, in the document's text.
-/
import Derived.Test.YtfkecgkfcldffaaGreatDoorZIsD
namespace Go.Proofs.YtfkecgkfcldffaaGreatDoor
set_option linter.unusedSimpArgs false
set_option linter.unusedVariables false
open Go.RowKit

def rrepSize (g : Nat → Int) : Nat → Int
  | 0 => 64
  | k + 1 => selI (wideOf (g k)) (rrepSize g k + 2 ^ k) (rrepSize g k)
theorem str_app (l : List UInt8) (s : ByteArray) : ((⟨l.toArray⟩ : ByteArray) ++ s) = ⟨(l ++ s.data.toList).toArray⟩ := by
  apply ByteArray.ext
  rw [ByteArray.data_append]
  apply Array.ext'
  simp
theorem rrep_eq (g : Nat → Int) : repSize g 4 = rrepSize g 4 ∧ 64 ≤ rrepSize g 4 ∧ rrepSize g 4 ≤ 79 := by
  simp only [repSize, rrepSize]
  generalize wideOf (g 0) = a0
  generalize wideOf (g 1) = a1
  generalize wideOf (g 2) = a2
  generalize wideOf (g 3) = a3
  revert a0 a1 a2 a3
  decide +kernel

set_option maxRecDepth 100000 in
set_option maxHeartbeats 1000000 in
theorem rreport_any (g0 g1 g2 g3 gl gr si : Int) (w : World) :
    Calls Tryz.prog 26 #[.agg #[.int .i64 g0, .int .i64 g1, .int .i64 g2, .int .i64 g3, .int .i64 gl, .int .i64 gr, .int .i64 si]] w fun e w' =>
      e = .returned (.tuple #[.int .u8 (repSize (gNo g0 g1 g2 g3) 4), .string ⟨(repIds (gNo g0 g1 g2 g3) 4).toArray⟩]) ∧ Gr w w' := by
  rw [(rrep_eq (gNo g0 g1 g2 g3)).1]
  go_enter Tryz.func26, Tryz.ntmps26
  go_wp2_with fail
  go_loopw [4, 5, 6, 7] (fun s b d i w' => ∃ k : Nat, k ≤ 4 ∧ i = .int .i64 k ∧ s = .int .i64 (rrepSize (gNo g0 g1 g2 g3) k) ∧ b = .int .i64 (2 ^ k) ∧ d = .string ⟨(repIds (gNo g0 g1 g2 g3) k).toArray⟩ ∧ 64 ≤ rrepSize (gNo g0 g1 g2 g3) k ∧ rrepSize (gNo g0 g1 g2 g3) k < 64 + 2 ^ k ∧
      w'.heap[w.heap.size]? = some (.cells #[.int .i64 g0, .int .i64 g1, .int .i64 g2, .int .i64 g3, .int .i64 gl, .int .i64 gr, .int .i64 si] 25 (0, 0)) ∧ Gr w w') (fun _ _ _ i _ => (4 - intOf i).toNat)
  case atStart => exact ⟨0, by omega, rfl, rfl, rfl, rfl, Int.le_refl _, Int.lt_succ _, heap_alloc_new _ _, by (repeat (first | with_reducible (refine Gr.setCell ?_ ?hp _; case hp => (simp; try omega)) | with_reducible refine Gr.alloc ?_ _ | with_reducible refine Gr.drew ?_ | with_reducible refine Gr.drewN ?_ _ | with_reducible assumption | with_reducible exact Gr.refl _ | with_reducible refine Gr.trans ?_ (by assumption)))⟩
  case round =>
    obtain ⟨k, hk, rfl, rfl, rfl, rfl, hs1, hs2, hbox, hgr⟩ := hrel
    have q := cells7 hbox
    by_cases hlt : k < 4
    · have hk4 : k = 0 ∨ k = 1 ∨ k = 2 ∨ k = 3 := by omega
      have hlen := repIds_len (gNo g0 g1 g2 g3) k
      rcases hk4 with rfl | rfl | rfl | rfl
      · cases hw : wideOf g0
        all_goals
          have hsz := idOf_size g0
          go_wp2_with (first
            | (go_at_call 68; refine (rwide_any _ _).mono ?_; rintro e w1 ⟨rfl, rfl⟩)
            | (go_at_call 69; refine (rid_any _ _).mono ?_; rintro e w1 ⟨rfl, rfl⟩))
          go_roundw
          case rel =>
            refine ⟨1, by omega, rfl, ?_, ?_, ?_, ?_, ?_, hbox, hgr⟩
            · exact congrArg (Value.int .i64) (by simp [rrepSize, gNo, hw, selI])
            · exact congrArg (Value.int .i64) (by decide)
            · exact congrArg Value.string (by rw [str_app]; rfl)
            · rw [rrepSize]; simp only [gNo, hw, selI_true, selI_false] at hs1 ⊢; omega
            · rw [rrepSize]; simp only [gNo, hw, selI_true, selI_false] at hs2 ⊢; omega
          case measure => simp [intOf]
      · cases hw : wideOf g1
        all_goals
          have hsz := idOf_size g1
          go_wp2_with (first
            | (go_at_call 68; refine (rwide_any _ _).mono ?_; rintro e w1 ⟨rfl, rfl⟩)
            | (go_at_call 69; refine (rid_any _ _).mono ?_; rintro e w1 ⟨rfl, rfl⟩))
          go_roundw
          case rel =>
            refine ⟨2, by omega, rfl, ?_, ?_, ?_, ?_, ?_, hbox, hgr⟩
            · exact congrArg (Value.int .i64) (by simp [rrepSize, gNo, hw, selI])
            · exact congrArg (Value.int .i64) (by decide)
            · exact congrArg Value.string (by rw [str_app]; rfl)
            · rw [rrepSize]; simp only [gNo, hw, selI_true, selI_false] at hs1 ⊢; omega
            · rw [rrepSize]; simp only [gNo, hw, selI_true, selI_false] at hs2 ⊢; omega
          case measure => simp [intOf]
      · cases hw : wideOf g2
        all_goals
          have hsz := idOf_size g2
          go_wp2_with (first
            | (go_at_call 68; refine (rwide_any _ _).mono ?_; rintro e w1 ⟨rfl, rfl⟩)
            | (go_at_call 69; refine (rid_any _ _).mono ?_; rintro e w1 ⟨rfl, rfl⟩))
          go_roundw
          case rel =>
            refine ⟨3, by omega, rfl, ?_, ?_, ?_, ?_, ?_, hbox, hgr⟩
            · exact congrArg (Value.int .i64) (by simp [rrepSize, gNo, hw, selI])
            · exact congrArg (Value.int .i64) (by decide)
            · exact congrArg Value.string (by rw [str_app]; rfl)
            · rw [rrepSize]; simp only [gNo, hw, selI_true, selI_false] at hs1 ⊢; omega
            · rw [rrepSize]; simp only [gNo, hw, selI_true, selI_false] at hs2 ⊢; omega
          case measure => simp [intOf]
      · cases hw : wideOf g3
        all_goals
          have hsz := idOf_size g3
          go_wp2_with (first
            | (go_at_call 68; refine (rwide_any _ _).mono ?_; rintro e w1 ⟨rfl, rfl⟩)
            | (go_at_call 69; refine (rid_any _ _).mono ?_; rintro e w1 ⟨rfl, rfl⟩))
          go_roundw
          case rel =>
            refine ⟨4, by omega, rfl, ?_, ?_, ?_, ?_, ?_, hbox, hgr⟩
            · exact congrArg (Value.int .i64) (by simp [rrepSize, gNo, hw, selI])
            · exact congrArg (Value.int .i64) (by decide)
            · exact congrArg Value.string (by rw [str_app]; rfl)
            · rw [rrepSize]; simp only [gNo, hw, selI_true, selI_false] at hs1 ⊢; omega
            · rw [rrepSize]; simp only [gNo, hw, selI_true, selI_false] at hs2 ⊢; omega
          case measure => simp [intOf]
    · obtain rfl : k = 4 := by omega
      simp only [Int.reducePow, Int.reduceAdd] at hs2
      go_wp2
      go_ret2
      exact ⟨by simp, hgr⟩
end Go.Proofs.YtfkecgkfcldffaaGreatDoor
