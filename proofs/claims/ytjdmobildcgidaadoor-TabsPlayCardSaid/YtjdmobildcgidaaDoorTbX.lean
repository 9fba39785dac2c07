/-
  Tab stops: the law TabsPlay.
-/
import Derived.Test.YtjdmobildcgidaaDoorTbR
namespace Go.Proofs.YtjdmobildcgidaaDoor
set_option linter.unusedSimpArgs false
set_option linter.unusedVariables false
open Go.RowKit
set_option linter.unusedVariables false
theorem copy_l (p : Nat) (l : List Bool) (w : World) (h : LAt w p l) : Calls Tryd.prog 22 #[.pointer (some ⟨p, 0, none⟩)] w fun e w' => e = .returned (.pointer (some ⟨w.heap.size, 0, none⟩)) ∧ (LAt w' w.heap.size l ∧ Gr w w') := copy_any p _ _ w h
set_option maxRecDepth 100000 in
set_option maxHeartbeats 4000000 in
theorem play_walk (c : Int) (a : Option Addr) (len cap : Nat) (w : World) (hacts : IsStructs w a len 3 actF) (hT : TabOk w) (hM : MaxOk w) :
    Calls Tryd.prog 7 #[.int .i64 c, .slice a len cap] w fun e w' => e = .returned (.bool true) ∧ Gr w w' := by
  have haw := awake_any w hT
  have hpl := fun (W : World) (hg : Gr w W) => played_any c a len cap W (hacts.gr hg) (hT.gr hg) (hM.gr hg)
  have HT := Lib.hid hT
  clear hacts hT hM
  go_enter Tryd.func7, Tryd.ntmps7
  go_upto_region 10 with (first
    | (go_at_call 9; (with_reducible refine haw.mono ?_); rintro e w1 ⟨rfl, hg1⟩)
    | (go_at_call 10; (with_reducible refine (hpl _ hg1).mono ?_); rintro e w2 ⟨p, v, l, rfl, hp, hst, hbl, hln, hg2⟩)
    | (go_at_call 22; (with_reducible refine (copy_l p l w2 hst).mono ?_); rintro e w3 ⟨rfl, ht3, hg3⟩; have hs3 : LAt w3 p l := StAt.gr hst hg3)
    | (go_at_call 23; (with_reducible refine (clearAll_l p l w3 hs3).mono ?_); rintro e w4 ⟨rfl, hs4, hu4⟩)
    | (go_at_call 24; (with_reducible refine (set_l p _ 3 w4 hs4 (by simpa using hln)).mono ?_); rintro e w5 ⟨rfl, hs5, hu5⟩))
  have hgw2 := hg1.trans hg2
  have hpw := (Array.getElem?_eq_some_iff.1 hst).1
  have hu35 := hu4.trans hu5
  have hgw5 : Gr w w5 := Gr.upd (hgw2.trans hg3) hu35 (by simp; have := hg1.size; omega)
  have ht5 : LAt w5 w2.heap.size l := hu35.blk ht3 (by simp; omega)
  have hb5 : BL (p + 1) w5 v l := (hbl.gr hg3).upd hu35 (by simp)
  have hT5 : TabOk w5 := HT.out.gr hgw5
  have hz : ∀ w0 : World, LAt (w0.alloc (.cells #[.int .i64 0, .int .u64 0, .int .u64 0, .int .u64 0, .int .u64 0, .int .u64 0, .int .u64 0, .int .u64 0, .int .u64 0] 45)) w0.heap.size [] := by
    intro w0
    have e : lf [] = fun _ => false := by funext j; rfl
    unfold LAt StAt
    rw [e, stCells_none]
    exact heap_alloc_new _ _
  have hz5 := hz w5
  have hg6 : Gr w5 (w5.alloc (.cells #[.int .i64 0, .int .u64 0, .int .u64 0, .int .u64 0, .int .u64 0, .int .u64 0, .int .u64 0, .int .u64 0, .int .u64 0] 45)) := (Gr.refl _).alloc _
  obtain ⟨w6, hw6⟩ : ∃ w6, w6 = w5.alloc (.cells #[.int .i64 0, .int .u64 0, .int .u64 0, .int .u64 0, .int .u64 0, .int .u64 0, .int .u64 0, .int .u64 0, .int .u64 0] 45) := ⟨_, rfl⟩
  rw [← hw6] at hz5 hg6 ⊢
  obtain ⟨z, hzz⟩ : ∃ z, z = w5.heap.size := ⟨_, rfl⟩
  obtain ⟨t, htt⟩ : ∃ t, t = w2.heap.size := ⟨_, rfl⟩
  rw [← hzz] at hz5 ⊢
  rw [← htt] at ht5 ⊢
  obtain ⟨va, cap', rfl⟩ := hb5.1.form
  have ht6 := StAt.gr ht5 hg6
  have hb6 := hb5.gr hg6
  have hT6 := hT5.gr hg6
  have hgw6 := hgw5.trans hg6
  have hlt := fun (W : World) (hg : Gr w6 W) => list_any t _ _ W (StAt.gr ht6 hg) (hT6.gr hg)
  have hct := fun (W : World) (hg : Gr w6 W) => cols_l t l W (StAt.gr ht6 hg)
  have hcz := fun (W : World) (hg : Gr w6 W) => cols_l z [] W (StAt.gr hz5 hg)
  have hhz := fun (W : World) (hg : Gr w6 W) => has_l z [] 0 W (StAt.gr hz5 hg) (by simp)
  have hnz := fun (W : World) (hg : Gr w6 W) => next_any z _ 5 2 _ W (StAt.gr hz5 hg) (by simp) (hT6.gr hg) (by omega)
  have e0 : nextR (([] : List Bool).length : Nat) (lf []) 5 2 = 0 := by kernel_rfl
  rw [e0] at hnz
  have hrl := fun (W : World) (hg : Gr w6 W) => rlist_any _ _ l W (hb6.gr hg) hln
  have hnl : (listF (lf l) 512).length ≤ 100000 := by have := listF_len (lf l) 512; omega
  clear hw6 hzz htt e0 hz hz5 ht5 ht6 hb5 hb6 hT5 hT6 hgw5 hu35 hu5 hs5 hu4 hs4 hs3 hg3 ht3 hst hbl hg2 hp haw hpl
  go_wp2_with (first
    | (go_at_call 19; (with_reducible refine (hlt _ ?_).mono ?_); ((repeat (first | with_reducible exact Gr.refl _ | with_reducible assumption | with_reducible refine Gr.setCell ?_ (by simp; try omega) _ | with_reducible refine Gr.alloc ?_ _ | with_reducible refine Gr.drew ?_ | with_reducible refine Gr.drewN ?_ _ | with_reducible refine Gr.trans ?_ (by assumption)))); rintro e w7 ⟨va7, cap7, rfl, hown7, hg7⟩)
    | (go_at_call 20; (with_reducible refine (hrl _ ?_).mono ?_); ((repeat (first | with_reducible exact Gr.refl _ | with_reducible assumption | with_reducible refine Gr.setCell ?_ (by simp; try omega) _ | with_reducible refine Gr.alloc ?_ _ | with_reducible refine Gr.drew ?_ | with_reducible refine Gr.drewN ?_ _ | with_reducible refine Gr.trans ?_ (by assumption)))); rintro e w8 ⟨va8, cap8, rfl, hown8, hg8⟩)
    | (go_at_call 18; (with_reducible refine (same_nums (HasRow.of_own (ownsRow_gr hown7 ?_)) (HasRow.of_own (ownsRow_gr hown8 ?_)) hnl).mono ?_); ((repeat (first | with_reducible exact Gr.refl _ | with_reducible assumption | with_reducible refine Gr.setCell ?_ (by simp; try omega) _ | with_reducible refine Gr.alloc ?_ _ | with_reducible refine Gr.drew ?_ | with_reducible refine Gr.drewN ?_ _ | with_reducible refine Gr.trans ?_ (by assumption)))); ((repeat (first | with_reducible exact Gr.refl _ | with_reducible assumption | with_reducible refine Gr.setCell ?_ (by simp; try omega) _ | with_reducible refine Gr.alloc ?_ _ | with_reducible refine Gr.drew ?_ | with_reducible refine Gr.drewN ?_ _ | with_reducible refine Gr.trans ?_ (by assumption)))); rintro e w9 ⟨rfl, hg9⟩)
    | (go_at_call 21; (first | (with_reducible refine (hct _ ?_).mono ?_) | (with_reducible refine (hcz _ ?_).mono ?_)); ((repeat (first | with_reducible exact Gr.refl _ | with_reducible assumption | with_reducible refine Gr.setCell ?_ (by simp; try omega) _ | with_reducible refine Gr.alloc ?_ _ | with_reducible refine Gr.drew ?_ | with_reducible refine Gr.drewN ?_ _ | with_reducible refine Gr.trans ?_ (by assumption)))); rintro e w10 ⟨rfl, rfl⟩)
    | (go_at_call 15; (with_reducible refine (hhz _ ?_).mono ?_); ((repeat (first | with_reducible exact Gr.refl _ | with_reducible assumption | with_reducible refine Gr.setCell ?_ (by simp; try omega) _ | with_reducible refine Gr.alloc ?_ _ | with_reducible refine Gr.drew ?_ | with_reducible refine Gr.drewN ?_ _ | with_reducible refine Gr.trans ?_ (by assumption)))); rintro e w11 ⟨rfl, rfl⟩)
    | (go_at_call 11; (with_reducible refine (hnz _ ?_).mono ?_); ((repeat (first | with_reducible exact Gr.refl _ | with_reducible assumption | with_reducible refine Gr.setCell ?_ (by simp; try omega) _ | with_reducible refine Gr.alloc ?_ _ | with_reducible refine Gr.drew ?_ | with_reducible refine Gr.drewN ?_ _ | with_reducible refine Gr.trans ?_ (by assumption)))); rintro e w12 ⟨rfl, hg12⟩))
  go_ret
  exact ⟨rfl, hgw6.trans (by (repeat (first | with_reducible exact Gr.refl _ | with_reducible assumption | with_reducible refine Gr.setCell ?_ (by simp; try omega) _ | with_reducible refine Gr.alloc ?_ _ | with_reducible refine Gr.drew ?_ | with_reducible refine Gr.drewN ?_ _ | with_reducible refine Gr.trans ?_ (by assumption))))⟩

theorem play_law (c : Int) (a : Option Addr) (len cap : Nat) (w : World) (hacts : IsStructs w a len 3 actF) (hlaid : laidMetH Tryd.prog Rows.tabsPlayRow.laid w) (hsh : w.ShapedOpen Tryd.prog) :
    Calls Tryd.prog 7 #[.int .i64 c, .slice a len cap] w fun e w' => e = .returned (.bool true) ∧ Gr w w' :=
  play_walk c a len cap w hacts (tabOk_of (by kernel_rfl) hlaid) (MaxOk.of hsh)
end Go.Proofs.YtjdmobildcgidaaDoor
