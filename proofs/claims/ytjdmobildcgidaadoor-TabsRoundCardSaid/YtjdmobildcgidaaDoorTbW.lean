/-
  Tab stops: the law TabsMove.
-/
import Derived.Test.YtjdmobildcgidaaDoorTbR
namespace Go.Proofs.YtjdmobildcgidaaDoor
set_option linter.unusedSimpArgs false
set_option linter.unusedVariables false
open Go.RowKit
set_option linter.unusedVariables false

theorem nthGt_mem : ∀ (l : List Int) (col n c : Int), nthGt l col n = some c → c ∈ l
  | [], _, _, _, h => by cases h
  | x :: l, col, n, c, h => by
    unfold nthGt at h
    split at h
    · split at h
      · injection h with h; subst h; exact List.mem_cons_self
      · exact List.mem_cons_of_mem _ (nthGt_mem l col (n - 1) c h)
    · exact List.mem_cons_of_mem _ (nthGt_mem l col n c h)
theorem nthLt_mem : ∀ (l : List Int) (col n c : Int), nthLt l col n = some c → c ∈ l
  | [], _, _, _, h => by cases h
  | x :: l, col, n, c, h => by
    unfold nthLt at h
    split at h
    · split at h
      · injection h with h; subst h; exact List.mem_cons_self
      · exact List.mem_cons_of_mem _ (nthLt_mem l col (n - 1) c h)
    · exact List.mem_cons_of_mem _ (nthLt_mem l col n c h)
theorem zsF_in (l : List Bool) (h : l.length ≤ 500) (c : Int) (hc : c ∈ zsF (lf l)) : 0 ≤ c ∧ c < (l.length : Nat) := by
  rw [zsF_tail l (by omega)] at hc
  unfold tailF at hc
  obtain ⟨j, hj, rfl⟩ := List.mem_map.1 hc
  have := (List.mem_filter.1 hj).1
  rw [List.mem_range'_1] at this
  omega
theorem nextR_in (l : List Bool) (col n : Int) (h : l.length ≤ 500) : 0 ≤ nextR (l.length : Nat) (lf l) col n ∧ (l.length ≠ 0 → nextR (l.length : Nat) (lf l) col n < (l.length : Nat)) := by
  unfold nextR
  split
  · omega
  · cases hx : nthGt (zsF (lf l)) col n with
    | none => simp only [Option.getD_none]; omega
    | some c =>
      have := zsF_in l h c (nthGt_mem _ _ _ _ hx)
      simp only [Option.getD_some]; omega
theorem backR_in (l : List Bool) (col n : Int) (h : l.length ≤ 500) : 0 ≤ backR (l.length : Nat) (lf l) col n ∧ (l.length ≠ 0 → backR (l.length : Nat) (lf l) col n < (l.length : Nat)) := by
  unfold backR
  split
  · omega
  · unfold backI
    cases hx : nthLt (zsF (lf l)).reverse col n with
    | none => simp only [Option.getD_none]; omega
    | some c =>
      have := zsF_in l h c (List.mem_reverse.1 (nthLt_mem _ _ _ _ hx))
      simp only [Option.getD_some]; omega

set_option maxRecDepth 100000 in
set_option maxHeartbeats 4000000 in
theorem move_walk (a : Option Addr) (len cap : Nat) (col n : Int) (w : World) (hacts : IsStructs w a len 3 actF) (hn : n ≤ 9223372036854775807) (hT : TabOk w) (hM : MaxOk w) :
    Calls Tryd.prog 3 #[.slice a len cap, .int .i64 col, .int .i64 n] w fun e w' => e = .returned (.bool true) ∧ Gr w w' := by
  have haw := awake_any w hT
  have hpl := fun (W : World) (hg : Gr w W) => played_any 40 a len cap W (hacts.gr hg) (hT.gr hg) (hM.gr hg)
  have HT := Lib.hid hT
  clear hacts hT hM
  go_enter Tryd.func3, Tryd.ntmps3
  go_upto_region 6 with (first
    | (go_at_call 9; (with_reducible refine haw.mono ?_); rintro e w1 ⟨rfl, hg1⟩)
    | (go_at_call 10; (with_reducible refine (hpl _ hg1).mono ?_); rintro e w2 ⟨p, v, l, rfl, hp, hst, hbl, hln, hg2⟩))
  have hgw2 := hg1.trans hg2
  have hT2 := HT.out.gr hgw2
  obtain ⟨va, cap', rfl⟩ := hbl.1.form
  have hb : (0 : Int) ≤ (l.length : Nat) ∧ ((l.length : Nat) : Int) ≤ 500 := by omega
  have hnx := fun (W : World) (hg : Gr w2 W) => next_any p _ col n _ W (StAt.gr hst hg) hb (hT2.gr hg) hn
  have hbk := fun (W : World) (hg : Gr w2 W) => back_any p _ col n _ W (StAt.gr hst hg) hb (hT2.gr hg) hn
  have hrn := fun (W : World) (hg : Gr w2 W) => rnext_any _ _ l col n W (hbl.gr hg) hln hn
  have hrb := fun (W : World) (hg : Gr w2 W) => rback_any _ _ l col n W (hbl.gr hg) hln hn
  obtain ⟨i1, i2⟩ := nextR_in l col n hln
  obtain ⟨j1, j2⟩ := backR_in l col n hln
  obtain ⟨X, hX⟩ : ∃ X, X = nextR (l.length : Nat) (lf l) col n := ⟨_, rfl⟩
  obtain ⟨Y, hY⟩ : ∃ Y, Y = backR (l.length : Nat) (lf l) col n := ⟨_, rfl⟩
  rw [← hX] at hnx hrn i1 i2
  rw [← hY] at hbk hrb j1 j2
  obtain ⟨N, hN⟩ : ∃ N, N = l.length := ⟨_, rfl⟩
  rw [← hN] at hrn hrb i2 j2 ⊢
  clear hX hY hN haw hpl hst hbl hln hT2 hb hg2 hp
  rcases Nat.eq_zero_or_pos N with h0 | h0
  · have hNb : ((N : Int) == 0) = true := by simp; omega
    clear i2 j2 h0
    go_wp2_with (first
      | (go_at_call 11; (with_reducible refine (hnx _ ?_).mono ?_); ((repeat (first | with_reducible exact Gr.refl _ | with_reducible assumption | with_reducible refine Gr.setCell ?_ (by simp; try omega) _ | with_reducible refine Gr.alloc ?_ _ | with_reducible refine Gr.drew ?_ | with_reducible refine Gr.drewN ?_ _ | with_reducible refine Gr.trans ?_ (by assumption)))); rintro e w7 ⟨rfl, hg7⟩)
      | (go_at_call 12; (with_reducible refine (hbk _ ?_).mono ?_); ((repeat (first | with_reducible exact Gr.refl _ | with_reducible assumption | with_reducible refine Gr.setCell ?_ (by simp; try omega) _ | with_reducible refine Gr.alloc ?_ _ | with_reducible refine Gr.drew ?_ | with_reducible refine Gr.drewN ?_ _ | with_reducible refine Gr.trans ?_ (by assumption)))); rintro e w8 ⟨rfl, hg8⟩)
      | (go_at_call 13; (with_reducible refine (hrn _ ?_).mono ?_); ((repeat (first | with_reducible exact Gr.refl _ | with_reducible assumption | with_reducible refine Gr.setCell ?_ (by simp; try omega) _ | with_reducible refine Gr.alloc ?_ _ | with_reducible refine Gr.drew ?_ | with_reducible refine Gr.drewN ?_ _ | with_reducible refine Gr.trans ?_ (by assumption)))); rintro e w9 ⟨rfl, hg9⟩)
      | (go_at_call 14; (with_reducible refine (hrb _ ?_).mono ?_); ((repeat (first | with_reducible exact Gr.refl _ | with_reducible assumption | with_reducible refine Gr.setCell ?_ (by simp; try omega) _ | with_reducible refine Gr.alloc ?_ _ | with_reducible refine Gr.drew ?_ | with_reducible refine Gr.drewN ?_ _ | with_reducible refine Gr.trans ?_ (by assumption)))); rintro e w10 ⟨rfl, hg10⟩))
    go_ret
    exact ⟨rfl, hgw2.trans (by (repeat (first | with_reducible exact Gr.refl _ | with_reducible assumption | with_reducible refine Gr.setCell ?_ (by simp; try omega) _ | with_reducible refine Gr.alloc ?_ _ | with_reducible refine Gr.drew ?_ | with_reducible refine Gr.drewN ?_ _ | with_reducible refine Gr.trans ?_ (by assumption))))⟩
  · have hNb : ((N : Int) == 0) = false := by simp; omega
    have i3 : X < (N : Int) := i2 (by omega)
    have j3 : Y < (N : Int) := j2 (by omega)
    clear i2 j2 h0
    go_wp2_with (first
      | (go_at_call 11; (with_reducible refine (hnx _ ?_).mono ?_); ((repeat (first | with_reducible exact Gr.refl _ | with_reducible assumption | with_reducible refine Gr.setCell ?_ (by simp; try omega) _ | with_reducible refine Gr.alloc ?_ _ | with_reducible refine Gr.drew ?_ | with_reducible refine Gr.drewN ?_ _ | with_reducible refine Gr.trans ?_ (by assumption)))); rintro e w7 ⟨rfl, hg7⟩)
      | (go_at_call 12; (with_reducible refine (hbk _ ?_).mono ?_); ((repeat (first | with_reducible exact Gr.refl _ | with_reducible assumption | with_reducible refine Gr.setCell ?_ (by simp; try omega) _ | with_reducible refine Gr.alloc ?_ _ | with_reducible refine Gr.drew ?_ | with_reducible refine Gr.drewN ?_ _ | with_reducible refine Gr.trans ?_ (by assumption)))); rintro e w8 ⟨rfl, hg8⟩)
      | (go_at_call 13; (with_reducible refine (hrn _ ?_).mono ?_); ((repeat (first | with_reducible exact Gr.refl _ | with_reducible assumption | with_reducible refine Gr.setCell ?_ (by simp; try omega) _ | with_reducible refine Gr.alloc ?_ _ | with_reducible refine Gr.drew ?_ | with_reducible refine Gr.drewN ?_ _ | with_reducible refine Gr.trans ?_ (by assumption)))); rintro e w9 ⟨rfl, hg9⟩)
      | (go_at_call 14; (with_reducible refine (hrb _ ?_).mono ?_); ((repeat (first | with_reducible exact Gr.refl _ | with_reducible assumption | with_reducible refine Gr.setCell ?_ (by simp; try omega) _ | with_reducible refine Gr.alloc ?_ _ | with_reducible refine Gr.drew ?_ | with_reducible refine Gr.drewN ?_ _ | with_reducible refine Gr.trans ?_ (by assumption)))); rintro e w10 ⟨rfl, hg10⟩))
    go_ret
    exact ⟨rfl, hgw2.trans (by (repeat (first | with_reducible exact Gr.refl _ | with_reducible assumption | with_reducible refine Gr.setCell ?_ (by simp; try omega) _ | with_reducible refine Gr.alloc ?_ _ | with_reducible refine Gr.drew ?_ | with_reducible refine Gr.drewN ?_ _ | with_reducible refine Gr.trans ?_ (by assumption))))⟩

theorem i64_top {n : Int} (h : (Lit.int .i64 n).wf = true) : n ≤ 9223372036854775807 := by
  have := bounds_i64 h
  omega
theorem move_law (a : Option Addr) (len cap : Nat) (col n : Int) (w : World) (hacts : IsStructs w a len 3 actF) (hn : (Lit.int .i64 n).wf = true) (hlaid : laidMetH Tryd.prog Rows.tabsMoveRow.laid w) (hsh : w.ShapedOpen Tryd.prog) :
    Calls Tryd.prog 3 #[.slice a len cap, .int .i64 col, .int .i64 n] w fun e w' => e = .returned (.bool true) ∧ Gr w w' :=
  move_walk a len cap col n w hacts (i64_top hn) (tabOk_of (by kernel_rfl) hlaid) (MaxOk.of hsh)
end Go.Proofs.YtjdmobildcgidaaDoor
