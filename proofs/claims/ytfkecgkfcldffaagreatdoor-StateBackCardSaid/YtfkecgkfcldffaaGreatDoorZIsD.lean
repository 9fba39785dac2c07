/-
  What is reported of the sets at hand, in the program's text.
-/
import Derived.Test.YtfkecgkfcldffaaGreatDoorShelf
import Derived.Test.YtfkecgkfcldffaaGreatDoorZIsC
import Derived.Test.YtfkecgkfcldffaaGreatDoorZBld2
namespace Go.Proofs.YtfkecgkfcldffaaGreatDoor
set_option linter.unusedSimpArgs false
set_option linter.unusedVariables false
open Go.RowKit

def gNo (g0 g1 g2 g3 : Int) (k : Nat) : Int := match k with | 0 => g0 | 1 => g1 | 2 => g2 | _ => g3
def repIds (g : Nat → Int) : Nat → List UInt8
  | 0 => []
  | k + 1 => repIds g k ++ (idOf (g k)).data.toList
def repSize (g : Nat → Int) : Nat → Int
  | 0 => 64
  | k + 1 => selI (wideOf (g k)) (bits BinOp.or IntKind.u8 (repSize g k) (2 ^ k)) (repSize g k)

theorem idOf_size (n : Int) : (idOf n).size ≤ 2 := by
  unfold idOf; split
  · unfold rowId; split <;> decide
  · decide
theorem repIds_len (g : Nat → Int) (k : Nat) : (repIds g k).length ≤ 2 * k := by
  induction k with
  | zero => simp [repIds]
  | succ k ih =>
    have := idOf_size (g k)
    have e : (idOf (g k)).data.toList.length = (idOf (g k)).size := by rw [Array.length_toList]; rfl
    simp only [repIds, List.length_append]
    omega

set_option maxRecDepth 100000 in
set_option maxHeartbeats 1000000 in
theorem report_any (g0 g1 g2 g3 gl gr si : Int) (w : World) :
    Calls Tryz.prog 21 #[.agg #[.int .i64 g0, .int .i64 g1, .int .i64 g2, .int .i64 g3, .int .i64 gl, .int .i64 gr, .int .i64 si]] w fun e w' =>
      e = .returned (.tuple #[.int .i64 (uL gl), .int .i64 (uR gr), .int .u8 (repSize (gNo g0 g1 g2 g3) 4), .string ⟨(repIds (gNo g0 g1 g2 g3) 4).toArray⟩]) ∧ Gr w w' := by
  have x0 : ∀ (a b c d : Value) w, (Instr.index 23 (.agg #[a, b, c, d]) (.int .i64 0)).run Tryz.prog w = .ok a w := fun _ _ _ _ _ => by kernel_rfl
  have x1 : ∀ (a b c d : Value) w, (Instr.index 23 (.agg #[a, b, c, d]) (.int .i64 1)).run Tryz.prog w = .ok b w := fun _ _ _ _ _ => by kernel_rfl
  have x2 : ∀ (a b c d : Value) w, (Instr.index 23 (.agg #[a, b, c, d]) (.int .i64 2)).run Tryz.prog w = .ok c w := fun _ _ _ _ _ => by kernel_rfl
  have x3 : ∀ (a b c d : Value) w, (Instr.index 23 (.agg #[a, b, c, d]) (.int .i64 3)).run Tryz.prog w = .ok d w := fun _ _ _ _ _ => by kernel_rfl
  go_enter Tryz.func21, Tryz.ntmps21
  go_wp2_with fail
  go_loopw [6, 8, 9, 10, 11, 14] (fun s _ _ _ _ i w' => ∃ k : Nat, k ≤ 4 ∧ i = .int .i64 k ∧ s = .int .u8 (repSize (gNo g0 g1 g2 g3) k) ∧ Lib.IsBuilder 118 5 (w.heap.size + 1) (w.heap.size + 1) ((repIds (gNo g0 g1 g2 g3) k).map fun b => Value.int .u8 b.toNat) w' ∧
      w'.heap[w.heap.size]? = some (.cells #[.int .i64 g0, .int .i64 g1, .int .i64 g2, .int .i64 g3, .int .i64 gl, .int .i64 gr, .int .i64 si] 38 (0, 0)) ∧ Gr w w') (fun _ _ _ _ _ i _ => (4 - intOf i).toNat)
  case atStart => exact ⟨0, by omega, rfl, rfl, by have h := Lib.fresh_isBuilder 118 5 (w.alloc (.cells #[.int .i64 g0, .int .i64 g1, .int .i64 g2, .int .i64 g3, .int .i64 gl, .int .i64 gr, .int .i64 si] 38)); simpa [repIds] using h, heap_alloc2_old _ _ _, by (repeat (first | with_reducible (refine Gr.setCell ?_ ?hp _; case hp => (simp; try omega)) | with_reducible refine Gr.alloc ?_ _ | with_reducible refine Gr.drew ?_ | with_reducible refine Gr.drewN ?_ _ | with_reducible assumption | with_reducible exact Gr.refl _ | with_reducible refine Gr.trans ?_ (by assumption)))⟩
  case round =>
    obtain ⟨k, hk, rfl, rfl, hbld, hbox, hgr⟩ := hrel
    by_cases hlt : k < 4
    · have hk4 : k = 0 ∨ k = 1 ∨ k = 2 ∨ k = 3 := by omega
      have hlen := repIds_len (gNo g0 g1 g2 g3) k
      rcases hk4 with rfl | rfl | rfl | rfl
      · cases hw : wideOf g0
        all_goals
          go_wp2_with (first
            | (go_at_call 62; refine (id_any _ _).mono ?_; rintro e w1 ⟨rfl, hb1⟩; have hbx := hb1.blk hbox; have hbl2 := isBuilder_gr hbld hb1))
          refine (bld_writeString _ _ _ _ _ hbl2 (by have := idOf_size g0; simp; omega) (by have := hb1.size; have := hgr.size; have h3 := (Array.getElem?_eq_some_iff.1 hbx).1; omega)).mono ?_
          rintro e w2 ⟨rfl, hbl3, hb2⟩
          go_wp2
          go_roundw
          case rel =>
            refine ⟨1, by omega, rfl, ?_, ?_, ?_, ?_⟩
            · exact congrArg (Value.int .u8) (by simp [repSize, gNo, hw, selI])
            · exact .inr (by simpa [repIds, Lib.strCells, gNo] using hbl3)
            · rw [hb2.block _ (by omega)]; exact hbx
            · exact (hgr.trans hb1).step (by omega) hb2
          case measure => simp [intOf]
      · cases hw : wideOf g1
        all_goals
          go_wp2_with (first
            | (go_at_call 62; refine (id_any _ _).mono ?_; rintro e w1 ⟨rfl, hb1⟩; have hbx := hb1.blk hbox; have hbl2 := isBuilder_gr hbld hb1))
          refine (bld_writeString _ _ _ _ _ hbl2 (by have := idOf_size g1; simp; omega) (by have := hb1.size; have := hgr.size; have h3 := (Array.getElem?_eq_some_iff.1 hbx).1; omega)).mono ?_
          rintro e w2 ⟨rfl, hbl3, hb2⟩
          go_wp2
          go_roundw
          case rel =>
            refine ⟨2, by omega, rfl, ?_, ?_, ?_, ?_⟩
            · exact congrArg (Value.int .u8) (by simp [repSize, gNo, hw, selI])
            · exact .inr (by simpa [repIds, Lib.strCells, gNo] using hbl3)
            · rw [hb2.block _ (by omega)]; exact hbx
            · exact (hgr.trans hb1).step (by omega) hb2
          case measure => simp [intOf]
      · cases hw : wideOf g2
        all_goals
          go_wp2_with (first
            | (go_at_call 62; refine (id_any _ _).mono ?_; rintro e w1 ⟨rfl, hb1⟩; have hbx := hb1.blk hbox; have hbl2 := isBuilder_gr hbld hb1))
          refine (bld_writeString _ _ _ _ _ hbl2 (by have := idOf_size g2; simp; omega) (by have := hb1.size; have := hgr.size; have h3 := (Array.getElem?_eq_some_iff.1 hbx).1; omega)).mono ?_
          rintro e w2 ⟨rfl, hbl3, hb2⟩
          go_wp2
          go_roundw
          case rel =>
            refine ⟨3, by omega, rfl, ?_, ?_, ?_, ?_⟩
            · exact congrArg (Value.int .u8) (by simp [repSize, gNo, hw, selI])
            · exact .inr (by simpa [repIds, Lib.strCells, gNo] using hbl3)
            · rw [hb2.block _ (by omega)]; exact hbx
            · exact (hgr.trans hb1).step (by omega) hb2
          case measure => simp [intOf]
      · cases hw : wideOf g3
        all_goals
          go_wp2_with (first
            | (go_at_call 62; refine (id_any _ _).mono ?_; rintro e w1 ⟨rfl, hb1⟩; have hbx := hb1.blk hbox; have hbl2 := isBuilder_gr hbld hb1))
          refine (bld_writeString _ _ _ _ _ hbl2 (by have := idOf_size g3; simp; omega) (by have := hb1.size; have := hgr.size; have h3 := (Array.getElem?_eq_some_iff.1 hbx).1; omega)).mono ?_
          rintro e w2 ⟨rfl, hbl3, hb2⟩
          go_wp2
          go_roundw
          case rel =>
            refine ⟨4, by omega, rfl, ?_, ?_, ?_, ?_⟩
            · exact congrArg (Value.int .u8) (by simp [repSize, gNo, hw, selI])
            · exact .inr (by simpa [repIds, Lib.strCells, gNo] using hbl3)
            · rw [hb2.block _ (by omega)]; exact hbx
            · exact (hgr.trans hb1).step (by omega) hb2
          case measure => simp [intOf]
    · obtain rfl : k = 4 := by omega
      have q := cells7 hbox
      have HB : Hid _ := hbld
      clear hbld x0 x1 x2 x3
      go_wp2_with fail
      go_region_with (first
        | (go_at_call 64; refine (lleftU _ _ _ _ _ _ _ _).mono ?_; rintro e w1 ⟨rfl, hL0⟩; have hL := hL0.undrew; have kL := hL.blk hbox; have qL := cells7 kL; have HL : Hid _ := isBuilder_gr HB.out hL)
        | (go_at_call 65; refine (lrightU _ _ _ _ _ _ _ _).mono ?_; rintro e w2 ⟨rfl, hR⟩; have kR := hR.blk kL; have qR := cells7 kR; have HR : Hid _ := isBuilder_gr HL.out hR)
        | (go_at_call 66; refine (Tryz.Builder_String_any _ _ _ _ HR.out (by have h3 := (Array.getElem?_eq_some_iff.1 kR).1; omega)).mono ?_; rintro e w3 ⟨rfl, hS⟩))
      all_goals
        go_wp2
        exact bodyPost_ret (v := .tuple #[.int .i64 (uL gl), .int .i64 (uR gr), .int .u8 (repSize (gNo g0 g1 g2 g3) 4), .string ⟨(repIds (gNo g0 g1 g2 g3) 4).toArray⟩]) (by simp [results, Tryz.results21, go_sem]) rfl ⟨rfl, ((hgr.trans hL).trans hR).step (by omega) hS⟩
end Go.Proofs.YtfkecgkfcldffaaGreatDoor
