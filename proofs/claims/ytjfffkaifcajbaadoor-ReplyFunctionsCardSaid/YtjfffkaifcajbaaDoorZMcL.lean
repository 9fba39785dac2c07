/-
  A builder in memory: what is told of it.
  Bytes as hexadecimal digits: the program's text; what is fixed.
-/
import Derived.Test.YtjfffkaifcajbaaDoorZMcE
namespace Go.Proofs.YtjfffkaifcajbaaDoor
set_option linter.unusedSimpArgs false
set_option linter.unusedVariables false
open Go.RowKit

theorem Gr.size {w w' : World} (h : Gr w w') : w.heap.size ≤ w'.heap.size := Below.size h
abbrev IsB (w0 w : World) (o : List UInt8) : Prop := Lib.IsBuilder 57 5 w0.heap.size w0.heap.size (Lib.byteCells o) w
end Go.Proofs.YtjfffkaifcajbaaDoor

namespace Go.Proofs.YtjfffkaifcajbaaDoor
set_option linter.unusedSimpArgs false
set_option linter.unusedVariables false
open Go.RowKit
set_option linter.unusedVariables false

set_option maxHeartbeats 2000000 in
set_option maxRecDepth 100000 in
theorem bld_writeByte (B b : Nat) (bs : List Value) (c : Int) (w : World) (h : Lib.IsBuilder 57 5 B b bs w) (hlen : bs.length + 1 ≤ 140737488355328) (hBw : B ≤ w.heap.size) :
    Calls Tryd.prog 32 #[.pointer (some ⟨b, 0, none⟩), .int .u8 c] w fun e w' => e = .returned .nilIface ∧ (Lib.BuilderAt 57 5 B b (.pointer (some ⟨b, 0, none⟩)) (bs ++ [.int .u8 c]) w' ∧ Below B w w') := by
  obtain ⟨i0, hi, hz0, hz1, hz2⟩ := info_parts (show (Tryd.prog.info? 5).map (fun i => (i.zero, i.size, i.bytes)) = some (some (.int .u8 0), 1, 1) by kernel_rfl)
  go_enter Tryd.func32, Tryd.ntmps32
  go_wp2_with (go_at_call 43; refine (bld_check B b bs _ h).mono ?_)
  rintro e w1 ⟨rfl, h1, hb1⟩
  obtain ⟨hB, v, hbk, hown, hne⟩ := h1
  have c0 : w1.cell? ⟨b, 0, none⟩ = some (.pointer (some ⟨b, 0, none⟩)) := by rw [Lib.cell_of_heap hbk]; rfl
  have c1 : w1.cell? ⟨b, 1, none⟩ = some v := by rw [Lib.cell_of_heap hbk]; rfl
  go_wp2_with (at_builtin; refine wpList_append_own _ rfl _ _ 30 rfl B 5 i0 _ 1 1 Tryd.underlying30 hi hz0 hz1 hz2 rfl (by omega) _ _ _ rfl (hown.alloc _) ⟨w1.heap.size, 0, none⟩ 1 1 [.int .u8 c] rfl rfl (cell_one_new _ _ _) (by simp [Value.oneCell']) ?c3 ?c4 ?c5 ?_)
  case c3 => unfold maxLen; omega
  case c4 => omega
  case c5 => have := hb1.size; simp; omega
  intro v' w2 hown' hgrow _
  have hlt : b < w1.heap.size := by
    rcases Nat.lt_or_ge b w1.heap.size with h' | h'
    · exact h'
    · simp [Array.getElem?_eq_none h'] at hbk
  have hbk1 := ((Gr.refl w1).alloc (.cells #[.int .u8 c] 5)).blk hbk
  have hb2 : w2.heap[b]? = some (.cells #[.pointer (some ⟨b, 0, none⟩), v] 57 (0, 0)) := by
    rw [hgrow.block b (by simp; omega) (fun e => hne e.symm)]
    exact hbk1
  have d0 : w2.cell? ⟨b, 0, none⟩ = some (.pointer (some ⟨b, 0, none⟩)) := by rw [Lib.cell_of_heap hb2]; rfl
  have d1 : w2.cell? ⟨b, 1, none⟩ = some v := by rw [Lib.cell_of_heap hb2]; rfl
  have f1 : w2.frozen? ⟨b, 1, none⟩ = false := Lib.frozen_of_heap hb2 1
  obtain ⟨ao, n', cap, rfl⟩ : ∃ ao n' cap, v' = .slice ao n' cap := by
    rcases hown'.2 with ⟨hv, _⟩ | ⟨g, cap, cur, hv, _⟩
    · exact ⟨_, _, _, hv⟩
    · exact ⟨_, _, _, hv⟩
  go_wp2
  go_ret
  refine ⟨rfl, ?_, ?_⟩
  · exact Lib.BuilderAt.put (T := 57) (e := 5) hB hb2 (bs' := bs ++ [.int .u8 c]) (by simpa using hown') (by decide)
  · exact ((hb1.alloc (by have := hb1.size; omega) _).grown hgrow (by have := hb1.size; simp; omega) (fun k hk => (hown.lt k hk).1)).setCell (p := ⟨b, 1, none⟩) hB _

theorem hexD (n : Nat) (h : n < (⟨#[48, 49, 50, 51, 52, 53, 54, 55, 56, 57, 65, 66, 67, 68, 69, 70]⟩ : ByteArray).size) : (⟨#[48, 49, 50, 51, 52, 53, 54, 55, 56, 57, 65, 66, 67, 68, 69, 70]⟩ : ByteArray)[n]'h = digB n := by
  have H : ∀ k : Fin 16, (⟨#[48, 49, 50, 51, 52, 53, 54, 55, 56, 57, 65, 66, 67, 68, 69, 70]⟩ : ByteArray)[k.val]'(k.isLt) = digB k.val := by decide +kernel
  exact H ⟨n, h⟩
theorem and15 (c : UInt8) : bits BinOp.and IntKind.u8 (c.toNat : Int) 15 = ((c.toNat % 16 : Nat) : Int) := by
  have H : ∀ k : Fin 256, bits BinOp.and IntKind.u8 (k.val : Int) 15 = ((k.val % 16 : Nat) : Int) := by decide +kernel
  exact H ⟨c.toNat, c.toNat_lt⟩
set_option maxRecDepth 100000 in
set_option maxHeartbeats 2000000 in
theorem hex_any (l : List UInt8) (w : World) (hl : l.length ≤ 1000000) : Calls Tryd.prog 9 #[.string (bsl l)] w fun e w' => e = .returned (.string (bsl (hexB l))) ∧ Gr w w' := by
  have hsz := bsl_size l
  have HSZ := Lib.hid hsz
  clear hsz
  go_enter Tryd.func9, Tryd.ntmps9
  go_wp2_with fail
  go_loopw [7] (fun iv wr => ∃ k : Nat, k ≤ (bsl l).size ∧ iv = .int .i64 (k : Int) ∧ IsB w wr (hexB (l.take k)) ∧ Gr w wr) (fun iv _ => (bsl l).size - (intOf iv).toNat)
  case atStart => exact ⟨0, by omega, rfl, Lib.fresh_isBuilder 57 5 w, by (repeat (first | with_reducible exact Gr.refl _ | with_reducible assumption | with_reducible refine Gr.setCell ?_ (by simp; try omega) _ | with_reducible refine Gr.alloc ?_ _ | with_reducible refine Gr.drew ?_ | with_reducible refine Gr.drewN ?_ _ | with_reducible refine Gr.trans ?_ (by assumption)))⟩
  case round =>
    obtain ⟨k, hk, rfl, hbld, hgr⟩ := hrel
    by_cases hlt : k < (bsl l).size
    · have hI : (k : Int) < ((bsl l).size : Int) := by omega
      have hkb : (k : Int) ≤ 1000000 := by have := HSZ.out; omega
      obtain ⟨c, hgc⟩ : ∃ c, (bsl l)[k]'hlt = c := ⟨_, rfl⟩
      have hc := c.toNat_lt
      have hd1 := hexD (c.toNat / 16) (show c.toNat / 16 < 16 by omega)
      have hd2 := hexD (c.toNat % 16) (show c.toNat % 16 < 16 by omega)
      have ha := and15 c
      have hm : c.toNat % 16 < 16 := by omega
      have hdk : l.take (k + 1) = l.take k ++ [c] := by
        have hk2 : k < l.length := by have := HSZ.out; omega
        rw [List.take_succ_eq_append_getElem hk2, ← hgc, bsl_get hlt]
      have hx : hexB (l.take (k + 1)) = (hexB (l.take k) ++ [digB (c.toNat / 16)]) ++ [digB (c.toNat % 16)] := by rw [hdk, hexB_snoc]; simp
      have hlk : (hexB (l.take k)).length ≤ 2000000 := by rw [hexB_len, List.length_take]; omega
      obtain ⟨b1, hb1⟩ : ∃ b, b = digB (c.toNat / 16) := ⟨_, rfl⟩
      obtain ⟨b2, hb2⟩ : ∃ b, b = digB (c.toNat % 16) := ⟨_, rfl⟩
      rw [← hb1, ← hb2] at hx
      rw [← hb1] at hd1
      rw [← hb2] at hd2
      have hw1 := fun w2 (h : IsB w w2 (hexB (l.take k))) (hB : w.heap.size ≤ w2.heap.size) => bld_writeByte w.heap.size w.heap.size (Lib.byteCells (hexB (l.take k))) (b1.toNat : Int) w2 h (by rw [Lib.byteCells_length]; omega) hB
      have hw2 := fun w2 (h : IsB w w2 (hexB (l.take k) ++ [b1])) (hB : w.heap.size ≤ w2.heap.size) => bld_writeByte w.heap.size w.heap.size (Lib.byteCells (hexB (l.take k) ++ [b1])) (b2.toNat : Int) w2 h (by rw [Lib.byteCells_length, List.length_append]; simp; omega) hB
      have hsz0 := Gr.size hgr
      have HX := Lib.hid hx; have HK := Lib.hid hlk
      clear hx hdk hb1 hb2 hlk
      go_wp2_with (first
        | (go_at_call 32; (with_reducible refine (hw1 _ hbld hsz0).mono ?_); rintro e w1 ⟨rfl, hbl1, hg1⟩; have hi1 : IsB w w1 (hexB (l.take k) ++ [b1]) := (by rw [IsB, Lib.byteCells_append]; exact .inr hbl1); have hgr1 := hgr.step (Nat.le_refl _) hg1; have hsz1 := Gr.size hgr1)
        | (go_at_call 32; (with_reducible refine (hw2 _ hi1 hsz1).mono ?_); rintro e w2 ⟨rfl, hbl2, hg2⟩))
      go_roundw
      case rel => exact ⟨k + 1, by omega, by go_num, by rw [IsB, HX.out, Lib.byteCells_append]; exact .inr hbl2, hgr1.step (Nat.le_refl _) hg2⟩
      case measure => simp [intOf]; omega
    · have hk2 : k = (bsl l).size := by omega
      have hlk : l.take k = l := List.take_of_length_le (by rw [hk2, HSZ.out]; omega)
      rw [hlk] at hbld
      have hst := Tryd.Builder_String_any w.heap.size w.heap.size (hexB l) wr hbld (Gr.size hgr)
      have hI : ¬ (k : Int) < ((bsl l).size : Int) := by omega
      clear hlk hk2
      go_wp2_with (go_at_call 33; (with_reducible refine hst.mono ?_); rintro e w1 ⟨rfl, hb1⟩)
      go_ret
      exact ⟨rfl, hgr.step (Nat.le_refl _) hb1⟩
end Go.Proofs.YtjfffkaifcajbaaDoor
