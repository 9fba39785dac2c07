/-
  A strings.Builder that the call has made itself: what its check and its WriteString do.
  A builder of the call's own in a later world; the bytes of an id.
  What is reported of the sets at hand, in the program's text.
-/
import Derived.Laws.Externs
import Derived.Lib.AppendStr
import Derived.Lib.Builder
import Derived.Lib.Slices
import Derived.Lib.Strings
import Derived.Test.YthfipedfoofobaaDoorRows
import Derived.Test.YthfipedfoofobaaDoorShelf
import Derived.Test.YthfipedfoofobaaDoorZLw4
import Derived.Test.YthfipedfoofobaaDoorZIsC
namespace Go.Proofs.YthfipedfoofobaaDoor
set_option linter.unusedSimpArgs false
set_option linter.unusedVariables false
open Go.RowKit

set_option maxHeartbeats 1000000 in
set_option maxRecDepth 100000 in
theorem bld_check_used (b : Nat) (w : World) (h0 : w.cell? ⟨b, 0, none⟩ = some (.pointer (some ⟨b, 0, none⟩))) :
    Calls Tryd.prog 59 #[.pointer (some ⟨b, 0, none⟩)] w fun e w' => e = .returned (.tuple #[]) ∧ w' = w := by
  obtain ⟨j, hj, _⟩ := Option.map_eq_some_iff.1 (show (Tryd.prog.info? 100).map (·.size) = some 2 by kernel_rfl)
  go_enter Tryd.func59, Tryd.ntmps59
  go_wp2
  rw [Lib.run_neq_ptr_same w _ Tryd.underlying98 hj]
  go_wp2
  go_end0
  exact ⟨rfl, rfl⟩

set_option maxHeartbeats 1000000 in
set_option maxRecDepth 100000 in
theorem bld_check_fresh (b : Nat) (w : World) (h0 : w.cell? ⟨b, 0, none⟩ = some (.pointer none)) (hsh : w.shape? b = some (100, 2)) (hfz : w.frozen? ⟨b, 0, none⟩ = false) :
    Calls Tryd.prog 59 #[.pointer (some ⟨b, 0, none⟩)] w fun e w' => e = .returned (.tuple #[]) ∧ w' = w.setCell ⟨b, 0, none⟩ (.pointer (some ⟨b, 0, none⟩)) := by
  obtain ⟨j, hj, hjs⟩ := Option.map_eq_some_iff.1 (show (Tryd.prog.info? 100).map (·.size) = some 2 by kernel_rfl)
  go_enter Tryd.func59, Tryd.ntmps59
  go_wp2
  rw [Lib.run_to_unsafe w ⟨b, 0, none⟩ Tryd.underlying98 Tryd.underlying132 hj (by rw [hjs]; decide) hsh (Nat.zero_lt_succ 1)]
  simp only [Result.andThen]
  rw [Oper.upon_value]
  go_wp2
  rw [run_callFunc_extern Tryd.func76 (by kernel_rfl) (by kernel_rfl) (by kernel_rfl) (e := Extern.AbiNoEscape.same) (by kernel_rfl)]
  rw [Lib.run_noEscape]
  simp only [Result.andThen]
  rw [Oper.upon_value]
  go_wp2
  rw [Lib.run_from_unsafe w ⟨b, 0, none⟩ Tryd.underlying132 Tryd.underlying98 hj hsh (by kernel_rfl)]
  simp only [Result.andThen]
  rw [Oper.upon_value]
  go_wp2
  go_end0
  exact ⟨rfl, rfl⟩

theorem bld_check (B b : Nat) (bs : List Value) (w : World) (h : Lib.IsBuilder 100 5 B b bs w) :
    Calls Tryd.prog 59 #[.pointer (some ⟨b, 0, none⟩)] w fun e w' => e = .returned (.tuple #[]) ∧ (Lib.BuilderAt 100 5 B b (.pointer (some ⟨b, 0, none⟩)) bs w' ∧ Below B w w') := by
  rcases h with h | h
  · refine (bld_check_fresh b w h.cell0 h.shape h.frozen0).mono ?_
    rintro e w' ⟨rfl, rfl⟩
    exact ⟨rfl, h.used _, (Below.refl B w).setCell (p := ⟨b, 0, none⟩) h.1 _⟩
  · refine (bld_check_used b w h.cell0).mono ?_
    rintro e w' ⟨rfl, rfl⟩
    exact ⟨rfl, h, Below.refl B _⟩

set_option maxHeartbeats 2000000 in
set_option maxRecDepth 100000 in
theorem bld_writeString (B b : Nat) (bs : List Value) (s : ByteArray) (w : World) (h : Lib.IsBuilder 100 5 B b bs w) (hlen : bs.length + s.size ≤ 140737488355328) (hBw : B ≤ w.heap.size) :
    Calls Tryd.prog 41 #[.pointer (some ⟨b, 0, none⟩), .string s] w fun e w' => e = .returned (.tuple #[.int .i64 s.size, .nilIface]) ∧ (Lib.BuilderAt 100 5 B b (.pointer (some ⟨b, 0, none⟩)) (bs ++ Lib.strCells s) w' ∧ Below B w w') := by
  obtain ⟨i0, hi, hz0, hz1, hz2⟩ := info_parts (show (Tryd.prog.info? 5).map (fun i => (i.zero, i.size, i.bytes)) = some (some (.int .u8 0), 1, 1) by kernel_rfl)
  go_enter Tryd.func41, Tryd.ntmps41
  go_wp2_with (go_at_call 59; refine (bld_check B b bs _ h).mono ?_)
  rintro e w1 ⟨rfl, h1, hb1⟩
  obtain ⟨hB, v, hbk, hown, hne⟩ := h1
  have c0 : w1.cell? ⟨b, 0, none⟩ = some (.pointer (some ⟨b, 0, none⟩)) := by rw [Lib.cell_of_heap hbk]; rfl
  have c1 : w1.cell? ⟨b, 1, none⟩ = some v := by rw [Lib.cell_of_heap hbk]; rfl
  go_wp2_with (at_builtin; refine Lib.wpList_append_own_string _ rfl _ _ 50 9 rfl B 5 i0 Tryd.underlying50 Tryd.underlying9 hi hz0 hz1 hz2 _ _ _ rfl hown s rfl ?c3 ?c4 ?c5 ?_)
  case c3 => unfold maxLen; omega
  case c4 => omega
  case c5 => have := hb1.size; omega
  intro v' w2 hown' hgrow _
  have hlt : b < w1.heap.size := by
    rcases Nat.lt_or_ge b w1.heap.size with h' | h'
    · exact h'
    · simp [Array.getElem?_eq_none h'] at hbk
  have hb2 : w2.heap[b]? = some (.cells #[.pointer (some ⟨b, 0, none⟩), v] 100 (0, 0)) := by
    rw [hgrow.block b hlt (fun e => hne e.symm)]
    exact hbk
  have d0 : w2.cell? ⟨b, 0, none⟩ = some (.pointer (some ⟨b, 0, none⟩)) := by rw [Lib.cell_of_heap hb2]; rfl
  have d1 : w2.cell? ⟨b, 1, none⟩ = some v := by rw [Lib.cell_of_heap hb2]; rfl
  have f1 : w2.frozen? ⟨b, 1, none⟩ = false := Lib.frozen_of_heap hb2 1
  obtain ⟨ao, n', cap, rfl⟩ : ∃ ao n' cap, v' = .slice ao n' cap := by
    rcases hown'.2 with ⟨hv, _⟩ | ⟨g, cap, cur, hv, _⟩
    · exact ⟨_, _, _, hv⟩
    · exact ⟨_, _, _, hv⟩
  go_wp2
  go_ret2
  refine ⟨rfl, ?_, ?_⟩
  · exact Lib.BuilderAt.put (T := 100) (e := 5) hB hb2 (bs' := bs ++ Lib.strCells s) (by simpa [Lib.strCells_length] using hown') (by decide)
  · exact (hb1.grown hgrow (by have := hb1.size; omega) (fun k hk => (hown.lt k hk).1)).setCell (p := ⟨b, 1, none⟩) hB _
end Go.Proofs.YthfipedfoofobaaDoor

namespace Go.Proofs.YthfipedfoofobaaDoor
set_option linter.unusedSimpArgs false
set_option linter.unusedVariables false
open Go.RowKit

theorem Gr.undrew {w w1 : World} (h : Gr w.drew w1) : Gr w w1 := ⟨h.os, h.tape, h.output, h.size, h.block⟩
theorem Gr.by_ {w w1 : World} (h : Gr w w1) (row : Option Nat) : w.grownBy w1 row := ⟨h.os, h.tape, h.output, h.size, fun i hi _ => h.block i hi⟩
theorem builderAt_gr {T e : TypeId} {B b : Nat} {p : Value} {bs : List Value} {w w1 : World} (h : Lib.BuilderAt T e B b p bs w) (hg : Gr w w1) : Lib.BuilderAt T e B b p bs w1 := by
  obtain ⟨hB, v, hb, ho, hne⟩ := h
  exact ⟨hB, v, hg.blk hb, ho.kept (row := some w.heap.size) (hg.by_ _) (by
    rcases ho.2 with ⟨hv, _⟩ | ⟨g, cap, cur, hv, hgB, hh, _⟩
    · exact .inl (by rw [hv]; rfl)
    · refine .inr ?_
      rw [hv]
      simp only [Value.ownBlock, ne_eq, Option.some.injEq]
      have := (Array.getElem?_eq_some_iff.1 hh).1
      omega), hne⟩
theorem isBuilder_gr {T e : TypeId} {B b : Nat} {bs : List Value} {w w1 : World} (h : Lib.IsBuilder T e B b bs w) (hg : Gr w w1) : Lib.IsBuilder T e B b bs w1 := by
  rcases h with h | h
  · exact .inl (builderAt_gr h hg)
  · exact .inr (builderAt_gr h hg)
end Go.Proofs.YthfipedfoofobaaDoor

namespace Go.Proofs.YthfipedfoofobaaDoor
set_option linter.unusedSimpArgs false
set_option linter.unusedVariables false
open Go.RowKit

def gNo (g0 g1 g2 g3 : Int) (k : Nat) : Int := match k with | 0 => g0 | 1 => g1 | 2 => g2 | _ => g3
def repIds (g : Nat → Int) : Nat → List UInt8
  | 0 => []
  | k + 1 => repIds g k ++ (idOf (g k)).data.toList
def repSize (g : Nat → Int) : Nat → Int
  | 0 => 64
  | k + 1 => selI (wideOf (g k)) (bits BinOp.or IntKind.u8 (repSize g k) (2 ^ k)) (repSize g k)

theorem idOf_size (n : Int) : (idOf n).size ≤ 2 := by
  unfold idOf; split
  · unfold rowId; split <;> decide
  · decide
theorem repIds_len (g : Nat → Int) (k : Nat) : (repIds g k).length ≤ 2 * k := by
  induction k with
  | zero => simp [repIds]
  | succ k ih =>
    have := idOf_size (g k)
    have e : (idOf (g k)).data.toList.length = (idOf (g k)).size := by rw [Array.length_toList]; rfl
    simp only [repIds, List.length_append]
    omega

set_option maxRecDepth 100000 in
set_option maxHeartbeats 1000000 in
theorem report_any (g0 g1 g2 g3 gl gr si : Int) (w : World) :
    Calls Tryd.prog 23 #[.agg #[.int .i64 g0, .int .i64 g1, .int .i64 g2, .int .i64 g3, .int .i64 gl, .int .i64 gr, .int .i64 si]] w fun e w' =>
      e = .returned (.tuple #[.int .i64 (uL gl), .int .i64 (uR gr), .int .u8 (repSize (gNo g0 g1 g2 g3) 4), .string ⟨(repIds (gNo g0 g1 g2 g3) 4).toArray⟩]) ∧ Gr w w' := by
  have x0 : ∀ (a b c d : Value) w, (Instr.index 23 (.agg #[a, b, c, d]) (.int .i64 0)).run Tryd.prog w = .ok a w := fun _ _ _ _ _ => by kernel_rfl
  have x1 : ∀ (a b c d : Value) w, (Instr.index 23 (.agg #[a, b, c, d]) (.int .i64 1)).run Tryd.prog w = .ok b w := fun _ _ _ _ _ => by kernel_rfl
  have x2 : ∀ (a b c d : Value) w, (Instr.index 23 (.agg #[a, b, c, d]) (.int .i64 2)).run Tryd.prog w = .ok c w := fun _ _ _ _ _ => by kernel_rfl
  have x3 : ∀ (a b c d : Value) w, (Instr.index 23 (.agg #[a, b, c, d]) (.int .i64 3)).run Tryd.prog w = .ok d w := fun _ _ _ _ _ => by kernel_rfl
  go_enter Tryd.func23, Tryd.ntmps23
  go_wp2_with fail
  go_loopw [6, 8, 9, 10, 11, 14] (fun s _ _ _ _ i w' => ∃ k : Nat, k ≤ 4 ∧ i = .int .i64 k ∧ s = .int .u8 (repSize (gNo g0 g1 g2 g3) k) ∧ Lib.IsBuilder 100 5 (w.heap.size + 1) (w.heap.size + 1) ((repIds (gNo g0 g1 g2 g3) k).map fun b => Value.int .u8 b.toNat) w' ∧
      w'.heap[w.heap.size]? = some (.cells #[.int .i64 g0, .int .i64 g1, .int .i64 g2, .int .i64 g3, .int .i64 gl, .int .i64 gr, .int .i64 si] 36 (0, 0)) ∧ Gr w w') (fun _ _ _ _ _ i _ => (4 - intOf i).toNat)
  case atStart => exact ⟨0, by omega, rfl, rfl, by have h := Lib.fresh_isBuilder 100 5 (w.alloc (.cells #[.int .i64 g0, .int .i64 g1, .int .i64 g2, .int .i64 g3, .int .i64 gl, .int .i64 gr, .int .i64 si] 36)); simpa [repIds] using h, heap_alloc2_old _ _ _, by (repeat (first | with_reducible (refine Gr.setCell ?_ ?hp _; case hp => (simp; try omega)) | with_reducible refine Gr.alloc ?_ _ | with_reducible refine Gr.drew ?_ | with_reducible refine Gr.drewN ?_ _ | with_reducible assumption | with_reducible exact Gr.refl _ | with_reducible refine Gr.trans ?_ (by assumption)))⟩
  case round =>
    obtain ⟨k, hk, rfl, rfl, hbld, hbox, hgr⟩ := hrel
    by_cases hlt : k < 4
    · have hk4 : k = 0 ∨ k = 1 ∨ k = 2 ∨ k = 3 := by omega
      have hlen := repIds_len (gNo g0 g1 g2 g3) k
      rcases hk4 with rfl | rfl | rfl | rfl
      · cases hw : wideOf g0
        all_goals
          go_wp2_with (first
            | (go_at_call 40; refine (id_any _ _).mono ?_; rintro e w1 ⟨rfl, hb1⟩; have hbx := hb1.blk hbox; have hbl2 := isBuilder_gr hbld hb1))
          refine (bld_writeString _ _ _ _ _ hbl2 (by have := idOf_size g0; simp; omega) (by have := hb1.size; have := hgr.size; have h3 := (Array.getElem?_eq_some_iff.1 hbx).1; omega)).mono ?_
          rintro e w2 ⟨rfl, hbl3, hb2⟩
          go_wp2
          go_roundw
          case rel =>
            refine ⟨1, by omega, rfl, ?_, ?_, ?_, ?_⟩
            · exact congrArg (Value.int .u8) (by simp [repSize, gNo, hw, selI])
            · exact .inr (by simpa [repIds, Lib.strCells, gNo] using hbl3)
            · rw [hb2.block _ (by omega)]; exact hbx
            · exact (hgr.trans hb1).step (by omega) hb2
          case measure => simp [intOf]
      · cases hw : wideOf g1
        all_goals
          go_wp2_with (first
            | (go_at_call 40; refine (id_any _ _).mono ?_; rintro e w1 ⟨rfl, hb1⟩; have hbx := hb1.blk hbox; have hbl2 := isBuilder_gr hbld hb1))
          refine (bld_writeString _ _ _ _ _ hbl2 (by have := idOf_size g1; simp; omega) (by have := hb1.size; have := hgr.size; have h3 := (Array.getElem?_eq_some_iff.1 hbx).1; omega)).mono ?_
          rintro e w2 ⟨rfl, hbl3, hb2⟩
          go_wp2
          go_roundw
          case rel =>
            refine ⟨2, by omega, rfl, ?_, ?_, ?_, ?_⟩
            · exact congrArg (Value.int .u8) (by simp [repSize, gNo, hw, selI])
            · exact .inr (by simpa [repIds, Lib.strCells, gNo] using hbl3)
            · rw [hb2.block _ (by omega)]; exact hbx
            · exact (hgr.trans hb1).step (by omega) hb2
          case measure => simp [intOf]
      · cases hw : wideOf g2
        all_goals
          go_wp2_with (first
            | (go_at_call 40; refine (id_any _ _).mono ?_; rintro e w1 ⟨rfl, hb1⟩; have hbx := hb1.blk hbox; have hbl2 := isBuilder_gr hbld hb1))
          refine (bld_writeString _ _ _ _ _ hbl2 (by have := idOf_size g2; simp; omega) (by have := hb1.size; have := hgr.size; have h3 := (Array.getElem?_eq_some_iff.1 hbx).1; omega)).mono ?_
          rintro e w2 ⟨rfl, hbl3, hb2⟩
          go_wp2
          go_roundw
          case rel =>
            refine ⟨3, by omega, rfl, ?_, ?_, ?_, ?_⟩
            · exact congrArg (Value.int .u8) (by simp [repSize, gNo, hw, selI])
            · exact .inr (by simpa [repIds, Lib.strCells, gNo] using hbl3)
            · rw [hb2.block _ (by omega)]; exact hbx
            · exact (hgr.trans hb1).step (by omega) hb2
          case measure => simp [intOf]
      · cases hw : wideOf g3
        all_goals
          go_wp2_with (first
            | (go_at_call 40; refine (id_any _ _).mono ?_; rintro e w1 ⟨rfl, hb1⟩; have hbx := hb1.blk hbox; have hbl2 := isBuilder_gr hbld hb1))
          refine (bld_writeString _ _ _ _ _ hbl2 (by have := idOf_size g3; simp; omega) (by have := hb1.size; have := hgr.size; have h3 := (Array.getElem?_eq_some_iff.1 hbx).1; omega)).mono ?_
          rintro e w2 ⟨rfl, hbl3, hb2⟩
          go_wp2
          go_roundw
          case rel =>
            refine ⟨4, by omega, rfl, ?_, ?_, ?_, ?_⟩
            · exact congrArg (Value.int .u8) (by simp [repSize, gNo, hw, selI])
            · exact .inr (by simpa [repIds, Lib.strCells, gNo] using hbl3)
            · rw [hb2.block _ (by omega)]; exact hbx
            · exact (hgr.trans hb1).step (by omega) hb2
          case measure => simp [intOf]
    · obtain rfl : k = 4 := by omega
      have q := cells7 hbox
      have HB : Hid _ := hbld
      clear hbld x0 x1 x2 x3
      go_wp2_with fail
      go_region_with (first
        | (go_at_call 42; refine (lleftU _ _ _ _ _ _ _ _).mono ?_; rintro e w1 ⟨rfl, hL0⟩; have hL := hL0.undrew; have kL := hL.blk hbox; have qL := cells7 kL; have HL : Hid _ := isBuilder_gr HB.out hL)
        | (go_at_call 43; refine (lrightU _ _ _ _ _ _ _ _).mono ?_; rintro e w2 ⟨rfl, hR⟩; have kR := hR.blk kL; have qR := cells7 kR; have HR : Hid _ := isBuilder_gr HL.out hR)
        | (go_at_call 44; refine (Tryd.Builder_String_any _ _ _ _ HR.out (by have h3 := (Array.getElem?_eq_some_iff.1 kR).1; omega)).mono ?_; rintro e w3 ⟨rfl, hS⟩))
      all_goals
        go_wp2
        exact bodyPost_ret (v := .tuple #[.int .i64 (uL gl), .int .i64 (uR gr), .int .u8 (repSize (gNo g0 g1 g2 g3) 4), .string ⟨(repIds (gNo g0 g1 g2 g3) 4).toArray⟩]) (by simp [results, Tryd.results23, go_sem]) rfl ⟨rfl, ((hgr.trans hL).trans hR).step (by omega) hS⟩
end Go.Proofs.YthfipedfoofobaaDoor
