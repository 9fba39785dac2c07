/-
  Keys with texts: the law UdkFull, walked.
-/
import Derived.Test.YtdfohcnejdhkiaaDoorZUdI
namespace Go.Proofs.YtdfohcnejdhkiaaDoor
set_option linter.unusedSimpArgs false
set_option linter.unusedVariables false
open Go.RowKit
set_option linter.unusedVariables false

theorem MaxOk.of {w : World} (h : w.ShapedOpen Tryd.prog) : MaxOk w := Tryd.laysM145.s1_3 w h
set_option maxRecDepth 100000 in
set_option maxHeartbeats 4000000 in
theorem full_walk (n m : Int) (w : World) (hM : MaxOk w) : Calls Tryd.prog 3 #[.int .i64 n, .int .i64 m] w fun e w' => e = .returned (.bool true) ∧ Gr w w' := by
  obtain ⟨N, hN⟩ : ∃ N : Nat, max 0 (min n 1000) = (N : Int) := ⟨(max 0 (min n 1000)).toNat, by omega⟩
  obtain ⟨M, hMd⟩ : ∃ M : Nat, max 0 (min m 1000) = (M : Int) := ⟨(max 0 (min m 1000)).toNat, by omega⟩
  have hN0 : N ≤ 1000 := by omega
  have hM0 : M ≤ 1000 := by omega
  go_enter Tryd.func3, Tryd.ntmps3
  go_upto_region 6 with (go_at_call 6; (with_reducible refine (awake_any _ hM).mono ?_); rintro e w1 ⟨rfl, hg1⟩)
  have hK0 := KAt.fresh w1
  have hg0 := hg1.alloc (.cells #[.string ⟨#[]⟩, .string ⟨#[]⟩, .string ⟨#[]⟩, .string ⟨#[]⟩, .string ⟨#[]⟩, .string ⟨#[]⟩, .string ⟨#[]⟩, .string ⟨#[]⟩, .string ⟨#[]⟩, .string ⟨#[]⟩, .string ⟨#[]⟩, .string ⟨#[]⟩, .string ⟨#[]⟩, .string ⟨#[]⟩, .string ⟨#[]⟩, .string ⟨#[]⟩, .string ⟨#[]⟩, .string ⟨#[]⟩, .bool false] 27)
  obtain ⟨w2, hw2⟩ : ∃ w2, w2 = w1.alloc (.cells #[.string ⟨#[]⟩, .string ⟨#[]⟩, .string ⟨#[]⟩, .string ⟨#[]⟩, .string ⟨#[]⟩, .string ⟨#[]⟩, .string ⟨#[]⟩, .string ⟨#[]⟩, .string ⟨#[]⟩, .string ⟨#[]⟩, .string ⟨#[]⟩, .string ⟨#[]⟩, .string ⟨#[]⟩, .string ⟨#[]⟩, .string ⟨#[]⟩, .string ⟨#[]⟩, .string ⟨#[]⟩, .string ⟨#[]⟩, .bool false] 27) := ⟨_, rfl⟩
  obtain ⟨p, hp⟩ : ∃ p, p = w1.heap.size := ⟨_, rfl⟩
  have hpw : w.heap.size ≤ p := by rw [hp]; exact Below.size hg1
  rw [← hw2] at hK0 hg0 ⊢
  rw [← hp] at hK0 ⊢
  have HP := Lib.hid hpw
  clear hw2 hp hpw hg1
  have happ1 : (⟨#[49, 55, 47]⟩ : ByteArray) ++ bsl (fours N) = bsl (49 :: 55 :: 47 :: fours N) := bsl_app [49, 55, 47] _
  have hd1 := fun (W : World) (h : KAt W p noL false) (hg : Gr w W) => define_any false false (49 :: 55 :: 47 :: fours N) h (by simp [fours]; omega) (hM.gr hg) (by decide)
  simp only [dfn1] at hd1
  have hxN := fun W => hex4_any N W hN0
  obtain ⟨S1, hS1⟩ : ∃ s, s = bsl (49 :: 55 :: 47 :: fours N) := ⟨_, rfl⟩
  obtain ⟨XN, hXN⟩ : ∃ s, s = bsl (fours N) := ⟨_, rfl⟩
  rw [← hS1] at happ1 hd1
  rw [← hXN] at happ1 hxN
  have sN : ¬ 9223372036854775807 < 3 + XN.size := by rw [hXN, bsl_size]; simp [fours]; omega
  clear hS1 hXN
  by_cases h1 : 804 < N
  · have h1i : ¬ (N : Int) ≤ 804 := by omega
    simp only [if_pos h1] at hd1
    clear h1
    go_upto_region 11 with (first
      | (go_at_call 7; (with_reducible refine (hxN _).mono ?_); rintro e wx ⟨rfl, hgx⟩)
      | (go_at_call 8; (with_reducible refine (hd1 _ (hK0.gr hgx) (hg0.trans hgx)).mono ?_); rintro e wy ⟨rfl, hK1, huy⟩; have hg1 := (hg0.trans hgx).upd huy (by simpa using HP.out)))
    clear happ1 hd1 hxN
    have hd2 := fun (W : World) (h : KAt W p (l1 0) false) (hg : Gr w W) => define_any false false (49 :: 56 :: 47 :: (fours M ++ 59 :: 49 :: 57 :: 47 :: fours 1)) h (by simp [fours]; omega) (hM.gr hg) (by rw [used_l1]; omega)
    simp only [dfn2] at hd2
    have hd3 := fun (W : World) (L : Txs) (h : KAt W p L false) (hu : usedL L ≤ 1000000) (hg : Gr w W) => define_any true false (50 :: 48 :: 47 :: fours M) h (by simp [fours]; omega) (hM.gr hg) hu
    simp only [dfn3] at hd3
    have happ2a : (⟨#[49, 56, 47]⟩ : ByteArray) ++ bsl (fours M) = bsl (49 :: 56 :: 47 :: fours M) := bsl_app [49, 56, 47] _
    have happ2b : bsl (49 :: 56 :: 47 :: fours M) ++ (⟨#[59, 49, 57, 47]⟩ : ByteArray) = bsl ((49 :: 56 :: 47 :: fours M) ++ [59, 49, 57, 47]) := bsl_app _ [59, 49, 57, 47]
    have happ2c : bsl ((49 :: 56 :: 47 :: fours M) ++ [59, 49, 57, 47]) ++ bsl (fours 1) = bsl (49 :: 56 :: 47 :: (fours M ++ 59 :: 49 :: 57 :: 47 :: fours 1)) := by rw [bsl_app]; congr 1; simp
    have happ3 : (⟨#[50, 48, 47]⟩ : ByteArray) ++ bsl (fours M) = bsl (50 :: 48 :: 47 :: fours M) := bsl_app [50, 48, 47] _
    have hx1 : ∀ W : World, Calls Tryd.prog 7 #[.int .i64 1] W (fun e w' => e = .returned (.string (bsl (fours 1))) ∧ Gr W w') := fun W => hex4_any 1 W (by omega)
    have hxM := fun W => hex4_any M W hM0
    obtain ⟨S2a, hS2a⟩ : ∃ s, s = bsl (49 :: 56 :: 47 :: fours M) := ⟨_, rfl⟩
    obtain ⟨S2b, hS2b⟩ : ∃ s, s = bsl ((49 :: 56 :: 47 :: fours M) ++ [59, 49, 57, 47]) := ⟨_, rfl⟩
    obtain ⟨S2, hS2⟩ : ∃ s, s = bsl (49 :: 56 :: 47 :: (fours M ++ 59 :: 49 :: 57 :: 47 :: fours 1)) := ⟨_, rfl⟩
    obtain ⟨S3, hS3⟩ : ∃ s, s = bsl (50 :: 48 :: 47 :: fours M) := ⟨_, rfl⟩
    rw [← hS2a] at happ2a happ2b
    rw [← hS2b] at happ2b happ2c
    rw [← hS2] at happ2c hd2
    rw [← hS3] at happ3 hd3
    obtain ⟨XM, hXM⟩ : ∃ s, s = bsl (fours M) := ⟨_, rfl⟩
    obtain ⟨X1, hX1⟩ : ∃ s, s = bsl (fours 1) := ⟨_, rfl⟩
    rw [← hXM] at happ2a happ3 hxM
    rw [← hX1] at happ2c hx1
    have w0e : IntKind.i64.wrap (M : Int) = (M : Int) := IntWalk.i64_in _ (by omega)
    have w2e : IntKind.i64.wrap ((M : Int) + 1) = (M : Int) + 1 := IntWalk.i64_in _ (by omega)
    have w4e : IntKind.i64.wrap (804 - (M : Int)) = 804 - (M : Int) := IntWalk.i64_in _ (by omega)
    have sM : ¬ 9223372036854775807 < 3 + XM.size := by rw [hXM, bsl_size]; simp [fours]; omega
    have sA : ¬ 9223372036854775807 < S2a.size + 4 := by rw [hS2a, bsl_size]; simp [fours]; omega
    have sB : ¬ 9223372036854775807 < S2b.size + X1.size := by rw [hS2b, hX1, bsl_size, bsl_size]; simp [fours]; omega
    clear hS2a hS2b hS2 hS3 hXM hX1
    have hu1 : usedL (l1 0) = 0 := used_l1 0
    have hu2 : usedL (((l1 0).set 1 (d4 M)).set 2 (d4 1)) = 0 + M + 1 := used_l2 0 M
    have hu3 : usedL (noL.set 3 (d4 M)) = M := used_l3 M
    obtain ⟨L1, hL1⟩ : ∃ L, L = l1 0 := ⟨_, rfl⟩
    obtain ⟨L2, hL2⟩ : ∃ L, L = ((l1 0).set 1 (d4 M)).set 2 (d4 1) := ⟨_, rfl⟩
    obtain ⟨L3, hL3⟩ : ∃ L, L = noL.set 3 (d4 M) := ⟨_, rfl⟩
    rw [← hL2] at hd2 hu2
    rw [← hL1] at hd2 hu1 hK1
    rw [← hL3] at hd3 hu3
    clear hL1 hL2 hL3
    by_cases h2 : 804 < 0 + M + 1
    · have h2i : ¬ (M : Int) + 1 ≤ 804 := by omega
      simp only [if_pos h2] at hd2
      have huz : usedL L1 ≤ 1000000 := by omega
      have hsp := fun (W : World) (h : KAt W p L1 false) => space_any h (by omega)
      rw [hu1] at hsp
      by_cases h3 : 804 < M
      · have hMi : ¬ (M : Int) ≤ 804 := by omega
        have hMi2 : (804 : Int) < (M : Int) := by omega
        simp only [if_pos h3] at hd3
        have hsp3 := fun (W : World) (h : KAt W p L3 false) => space_any h (by omega)
        rw [hu3] at hsp3
        clear h2 h3 hu1 hu2 hu3
        go_wp2_with (first
          | (go_at_call 7; (with_reducible refine (hxM _).mono ?_); rintro e wa ⟨rfl, hga⟩)
          | (go_at_call 7; (with_reducible refine (hx1 _).mono ?_); rintro e wb ⟨rfl, hgb⟩)
          | (go_at_call 8; (with_reducible refine (hd2 _ (hK1.gr (hga.trans hgb)) (hg1.trans (hga.trans hgb))).mono ?_); rintro e wc ⟨rfl, hKc, huc⟩; have hgc := (hg1.trans (hga.trans hgb)).upd huc (by simpa using HP.out))
          | (go_at_call 9; (with_reducible refine (hsp _ hKc).mono ?_); rintro e wd ⟨rfl, hgd⟩)
          | (go_at_call 7; (with_reducible refine (hxM _).mono ?_); rintro e we ⟨rfl, hge⟩)
          | (go_at_call 8; (with_reducible refine (hd3 _ _ (hKc.gr (by (repeat (first | with_reducible exact Gr.refl _ | with_reducible assumption | with_reducible refine Gr.setCell ?_ (by simp; try omega) _ | with_reducible refine Gr.alloc ?_ _ | with_reducible refine Gr.drew ?_ | with_reducible refine Gr.drewN ?_ _ | with_reducible refine Gr.trans ?_ (by assumption))))) huz (hgc.trans (by (repeat (first | with_reducible exact Gr.refl _ | with_reducible assumption | with_reducible refine Gr.setCell ?_ (by simp; try omega) _ | with_reducible refine Gr.alloc ?_ _ | with_reducible refine Gr.drew ?_ | with_reducible refine Gr.drewN ?_ _ | with_reducible refine Gr.trans ?_ (by assumption)))))).mono ?_); rintro e wf ⟨rfl, hKf, huf⟩; have hgf : Gr w wf := Gr.upd (hgc.trans (by (repeat (first | with_reducible exact Gr.refl _ | with_reducible assumption | with_reducible refine Gr.setCell ?_ (by simp; try omega) _ | with_reducible refine Gr.alloc ?_ _ | with_reducible refine Gr.drew ?_ | with_reducible refine Gr.drewN ?_ _ | with_reducible refine Gr.trans ?_ (by assumption))))) huf (by simpa using HP.out))
          | (go_at_call 9; (with_reducible refine (hsp3 _ hKf).mono ?_); rintro e wg ⟨rfl, hgg⟩))
        go_ret
        exact ⟨by first | rfl | (show Ending.returned (.bool (!decide ((M : Int) ≤ 804))) = _; rw [decide_eq_false (by omega)]; rfl), by (repeat (first | with_reducible exact Gr.refl _ | with_reducible assumption | with_reducible refine Gr.setCell ?_ (by simp; try omega) _ | with_reducible refine Gr.alloc ?_ _ | with_reducible refine Gr.drew ?_ | with_reducible refine Gr.drewN ?_ _ | with_reducible refine Gr.trans ?_ (by assumption)))⟩
      · have hMi : (M : Int) ≤ 804 := by omega
        have hMi2 : ¬ (804 : Int) < (M : Int) := by omega
        simp only [if_neg h3] at hd3
        have hsp3 := fun (W : World) (h : KAt W p L3 false) => space_any h (by omega)
        rw [hu3] at hsp3
        clear h2 h3 hu1 hu2 hu3
        go_wp2_with (first
          | (go_at_call 7; (with_reducible refine (hxM _).mono ?_); rintro e wa ⟨rfl, hga⟩)
          | (go_at_call 7; (with_reducible refine (hx1 _).mono ?_); rintro e wb ⟨rfl, hgb⟩)
          | (go_at_call 8; (with_reducible refine (hd2 _ (hK1.gr (hga.trans hgb)) (hg1.trans (hga.trans hgb))).mono ?_); rintro e wc ⟨rfl, hKc, huc⟩; have hgc := (hg1.trans (hga.trans hgb)).upd huc (by simpa using HP.out))
          | (go_at_call 9; (with_reducible refine (hsp _ hKc).mono ?_); rintro e wd ⟨rfl, hgd⟩)
          | (go_at_call 7; (with_reducible refine (hxM _).mono ?_); rintro e we ⟨rfl, hge⟩)
          | (go_at_call 8; (with_reducible refine (hd3 _ _ (hKc.gr (by (repeat (first | with_reducible exact Gr.refl _ | with_reducible assumption | with_reducible refine Gr.setCell ?_ (by simp; try omega) _ | with_reducible refine Gr.alloc ?_ _ | with_reducible refine Gr.drew ?_ | with_reducible refine Gr.drewN ?_ _ | with_reducible refine Gr.trans ?_ (by assumption))))) huz (hgc.trans (by (repeat (first | with_reducible exact Gr.refl _ | with_reducible assumption | with_reducible refine Gr.setCell ?_ (by simp; try omega) _ | with_reducible refine Gr.alloc ?_ _ | with_reducible refine Gr.drew ?_ | with_reducible refine Gr.drewN ?_ _ | with_reducible refine Gr.trans ?_ (by assumption)))))).mono ?_); rintro e wf ⟨rfl, hKf, huf⟩; have hgf : Gr w wf := Gr.upd (hgc.trans (by (repeat (first | with_reducible exact Gr.refl _ | with_reducible assumption | with_reducible refine Gr.setCell ?_ (by simp; try omega) _ | with_reducible refine Gr.alloc ?_ _ | with_reducible refine Gr.drew ?_ | with_reducible refine Gr.drewN ?_ _ | with_reducible refine Gr.trans ?_ (by assumption))))) huf (by simpa using HP.out))
          | (go_at_call 9; (with_reducible refine (hsp3 _ hKf).mono ?_); rintro e wg ⟨rfl, hgg⟩))
        go_ret
        exact ⟨by first | rfl | (show Ending.returned (.bool (!decide ((M : Int) ≤ 804))) = _; rw [decide_eq_false (by omega)]; rfl), by (repeat (first | with_reducible exact Gr.refl _ | with_reducible assumption | with_reducible refine Gr.setCell ?_ (by simp; try omega) _ | with_reducible refine Gr.alloc ?_ _ | with_reducible refine Gr.drew ?_ | with_reducible refine Gr.drewN ?_ _ | with_reducible refine Gr.trans ?_ (by assumption)))⟩
    · have h2i : (M : Int) + 1 ≤ 804 := by omega
      simp only [if_neg h2] at hd2
      have huz : usedL L2 ≤ 1000000 := by omega
      have hsp : True := trivial
      by_cases h3 : 804 < M
      · have hMi : ¬ (M : Int) ≤ 804 := by omega
        have hMi2 : (804 : Int) < (M : Int) := by omega
        simp only [if_pos h3] at hd3
        have hsp3 := fun (W : World) (h : KAt W p L3 false) => space_any h (by omega)
        rw [hu3] at hsp3
        clear h2 h3 hu1 hu2 hu3
        go_wp2_with (first
          | (go_at_call 7; (with_reducible refine (hxM _).mono ?_); rintro e wa ⟨rfl, hga⟩)
          | (go_at_call 7; (with_reducible refine (hx1 _).mono ?_); rintro e wb ⟨rfl, hgb⟩)
          | (go_at_call 8; (with_reducible refine (hd2 _ (hK1.gr (hga.trans hgb)) (hg1.trans (hga.trans hgb))).mono ?_); rintro e wc ⟨rfl, hKc, huc⟩; have hgc := (hg1.trans (hga.trans hgb)).upd huc (by simpa using HP.out))
          | (go_at_call 9; (with_reducible refine (hsp _ hKc).mono ?_); rintro e wd ⟨rfl, hgd⟩)
          | (go_at_call 7; (with_reducible refine (hxM _).mono ?_); rintro e we ⟨rfl, hge⟩)
          | (go_at_call 8; (with_reducible refine (hd3 _ _ (hKc.gr (by (repeat (first | with_reducible exact Gr.refl _ | with_reducible assumption | with_reducible refine Gr.setCell ?_ (by simp; try omega) _ | with_reducible refine Gr.alloc ?_ _ | with_reducible refine Gr.drew ?_ | with_reducible refine Gr.drewN ?_ _ | with_reducible refine Gr.trans ?_ (by assumption))))) huz (hgc.trans (by (repeat (first | with_reducible exact Gr.refl _ | with_reducible assumption | with_reducible refine Gr.setCell ?_ (by simp; try omega) _ | with_reducible refine Gr.alloc ?_ _ | with_reducible refine Gr.drew ?_ | with_reducible refine Gr.drewN ?_ _ | with_reducible refine Gr.trans ?_ (by assumption)))))).mono ?_); rintro e wf ⟨rfl, hKf, huf⟩; have hgf : Gr w wf := Gr.upd (hgc.trans (by (repeat (first | with_reducible exact Gr.refl _ | with_reducible assumption | with_reducible refine Gr.setCell ?_ (by simp; try omega) _ | with_reducible refine Gr.alloc ?_ _ | with_reducible refine Gr.drew ?_ | with_reducible refine Gr.drewN ?_ _ | with_reducible refine Gr.trans ?_ (by assumption))))) huf (by simpa using HP.out))
          | (go_at_call 9; (with_reducible refine (hsp3 _ hKf).mono ?_); rintro e wg ⟨rfl, hgg⟩))
        go_ret
        exact ⟨by first | rfl | (show Ending.returned (.bool (!decide ((M : Int) ≤ 804))) = _; rw [decide_eq_false (by omega)]; rfl), by (repeat (first | with_reducible exact Gr.refl _ | with_reducible assumption | with_reducible refine Gr.setCell ?_ (by simp; try omega) _ | with_reducible refine Gr.alloc ?_ _ | with_reducible refine Gr.drew ?_ | with_reducible refine Gr.drewN ?_ _ | with_reducible refine Gr.trans ?_ (by assumption)))⟩
      · have hMi : (M : Int) ≤ 804 := by omega
        have hMi2 : ¬ (804 : Int) < (M : Int) := by omega
        simp only [if_neg h3] at hd3
        have hsp3 := fun (W : World) (h : KAt W p L3 false) => space_any h (by omega)
        rw [hu3] at hsp3
        clear h2 h3 hu1 hu2 hu3
        go_wp2_with (first
          | (go_at_call 7; (with_reducible refine (hxM _).mono ?_); rintro e wa ⟨rfl, hga⟩)
          | (go_at_call 7; (with_reducible refine (hx1 _).mono ?_); rintro e wb ⟨rfl, hgb⟩)
          | (go_at_call 8; (with_reducible refine (hd2 _ (hK1.gr (hga.trans hgb)) (hg1.trans (hga.trans hgb))).mono ?_); rintro e wc ⟨rfl, hKc, huc⟩; have hgc := (hg1.trans (hga.trans hgb)).upd huc (by simpa using HP.out))
          | (go_at_call 9; (with_reducible refine (hsp _ hKc).mono ?_); rintro e wd ⟨rfl, hgd⟩)
          | (go_at_call 7; (with_reducible refine (hxM _).mono ?_); rintro e we ⟨rfl, hge⟩)
          | (go_at_call 8; (with_reducible refine (hd3 _ _ (hKc.gr (by (repeat (first | with_reducible exact Gr.refl _ | with_reducible assumption | with_reducible refine Gr.setCell ?_ (by simp; try omega) _ | with_reducible refine Gr.alloc ?_ _ | with_reducible refine Gr.drew ?_ | with_reducible refine Gr.drewN ?_ _ | with_reducible refine Gr.trans ?_ (by assumption))))) huz (hgc.trans (by (repeat (first | with_reducible exact Gr.refl _ | with_reducible assumption | with_reducible refine Gr.setCell ?_ (by simp; try omega) _ | with_reducible refine Gr.alloc ?_ _ | with_reducible refine Gr.drew ?_ | with_reducible refine Gr.drewN ?_ _ | with_reducible refine Gr.trans ?_ (by assumption)))))).mono ?_); rintro e wf ⟨rfl, hKf, huf⟩; have hgf : Gr w wf := Gr.upd (hgc.trans (by (repeat (first | with_reducible exact Gr.refl _ | with_reducible assumption | with_reducible refine Gr.setCell ?_ (by simp; try omega) _ | with_reducible refine Gr.alloc ?_ _ | with_reducible refine Gr.drew ?_ | with_reducible refine Gr.drewN ?_ _ | with_reducible refine Gr.trans ?_ (by assumption))))) huf (by simpa using HP.out))
          | (go_at_call 9; (with_reducible refine (hsp3 _ hKf).mono ?_); rintro e wg ⟨rfl, hgg⟩))
        go_ret
        exact ⟨by first | rfl | (show Ending.returned (.bool (!decide ((M : Int) ≤ 804))) = _; rw [decide_eq_false (by omega)]; rfl), by (repeat (first | with_reducible exact Gr.refl _ | with_reducible assumption | with_reducible refine Gr.setCell ?_ (by simp; try omega) _ | with_reducible refine Gr.alloc ?_ _ | with_reducible refine Gr.drew ?_ | with_reducible refine Gr.drewN ?_ _ | with_reducible refine Gr.trans ?_ (by assumption)))⟩
  · have h1i : (N : Int) ≤ 804 := by omega
    have hK804 : N ≤ 804 := by omega
    simp only [if_neg h1] at hd1
    clear h1
    go_upto_region 11 with (first
      | (go_at_call 7; (with_reducible refine (hxN _).mono ?_); rintro e wx ⟨rfl, hgx⟩)
      | (go_at_call 8; (with_reducible refine (hd1 _ (hK0.gr hgx) (hg0.trans hgx)).mono ?_); rintro e wy ⟨rfl, hK1, huy⟩; have hg1 := (hg0.trans hgx).upd huy (by simpa using HP.out)))
    clear happ1 hd1 hxN
    have hd2 := fun (W : World) (h : KAt W p (l1 N) false) (hg : Gr w W) => define_any false false (49 :: 56 :: 47 :: (fours M ++ 59 :: 49 :: 57 :: 47 :: fours 1)) h (by simp [fours]; omega) (hM.gr hg) (by rw [used_l1]; omega)
    simp only [dfn2] at hd2
    have hd3 := fun (W : World) (L : Txs) (h : KAt W p L false) (hu : usedL L ≤ 1000000) (hg : Gr w W) => define_any true false (50 :: 48 :: 47 :: fours M) h (by simp [fours]; omega) (hM.gr hg) hu
    simp only [dfn3] at hd3
    have happ2a : (⟨#[49, 56, 47]⟩ : ByteArray) ++ bsl (fours M) = bsl (49 :: 56 :: 47 :: fours M) := bsl_app [49, 56, 47] _
    have happ2b : bsl (49 :: 56 :: 47 :: fours M) ++ (⟨#[59, 49, 57, 47]⟩ : ByteArray) = bsl ((49 :: 56 :: 47 :: fours M) ++ [59, 49, 57, 47]) := bsl_app _ [59, 49, 57, 47]
    have happ2c : bsl ((49 :: 56 :: 47 :: fours M) ++ [59, 49, 57, 47]) ++ bsl (fours 1) = bsl (49 :: 56 :: 47 :: (fours M ++ 59 :: 49 :: 57 :: 47 :: fours 1)) := by rw [bsl_app]; congr 1; simp
    have happ3 : (⟨#[50, 48, 47]⟩ : ByteArray) ++ bsl (fours M) = bsl (50 :: 48 :: 47 :: fours M) := bsl_app [50, 48, 47] _
    have hx1 : ∀ W : World, Calls Tryd.prog 7 #[.int .i64 1] W (fun e w' => e = .returned (.string (bsl (fours 1))) ∧ Gr W w') := fun W => hex4_any 1 W (by omega)
    have hxM := fun W => hex4_any M W hM0
    obtain ⟨S2a, hS2a⟩ : ∃ s, s = bsl (49 :: 56 :: 47 :: fours M) := ⟨_, rfl⟩
    obtain ⟨S2b, hS2b⟩ : ∃ s, s = bsl ((49 :: 56 :: 47 :: fours M) ++ [59, 49, 57, 47]) := ⟨_, rfl⟩
    obtain ⟨S2, hS2⟩ : ∃ s, s = bsl (49 :: 56 :: 47 :: (fours M ++ 59 :: 49 :: 57 :: 47 :: fours 1)) := ⟨_, rfl⟩
    obtain ⟨S3, hS3⟩ : ∃ s, s = bsl (50 :: 48 :: 47 :: fours M) := ⟨_, rfl⟩
    rw [← hS2a] at happ2a happ2b
    rw [← hS2b] at happ2b happ2c
    rw [← hS2] at happ2c hd2
    rw [← hS3] at happ3 hd3
    obtain ⟨XM, hXM⟩ : ∃ s, s = bsl (fours M) := ⟨_, rfl⟩
    obtain ⟨X1, hX1⟩ : ∃ s, s = bsl (fours 1) := ⟨_, rfl⟩
    rw [← hXM] at happ2a happ3 hxM
    rw [← hX1] at happ2c hx1
    have w1e : IntKind.i64.wrap ((N : Int) + (M : Int)) = (N : Int) + (M : Int) := IntWalk.i64_in _ (by omega)
    have w2e : IntKind.i64.wrap ((N : Int) + (M : Int) + 1) = (N : Int) + (M : Int) + 1 := IntWalk.i64_in _ (by omega)
    have w3e : IntKind.i64.wrap (804 - (N : Int)) = 804 - (N : Int) := IntWalk.i64_in _ (by omega)
    have w4e : IntKind.i64.wrap (804 - (M : Int)) = 804 - (M : Int) := IntWalk.i64_in _ (by omega)
    have sM : ¬ 9223372036854775807 < 3 + XM.size := by rw [hXM, bsl_size]; simp [fours]; omega
    have sA : ¬ 9223372036854775807 < S2a.size + 4 := by rw [hS2a, bsl_size]; simp [fours]; omega
    have sB : ¬ 9223372036854775807 < S2b.size + X1.size := by rw [hS2b, hX1, bsl_size, bsl_size]; simp [fours]; omega
    clear hS2a hS2b hS2 hS3 hXM hX1
    have hu1 : usedL (l1 N) = N := used_l1 N
    have hu2 : usedL (((l1 N).set 1 (d4 M)).set 2 (d4 1)) = N + M + 1 := used_l2 N M
    have hu3 : usedL (noL.set 3 (d4 M)) = M := used_l3 M
    obtain ⟨L1, hL1⟩ : ∃ L, L = l1 N := ⟨_, rfl⟩
    obtain ⟨L2, hL2⟩ : ∃ L, L = ((l1 N).set 1 (d4 M)).set 2 (d4 1) := ⟨_, rfl⟩
    obtain ⟨L3, hL3⟩ : ∃ L, L = noL.set 3 (d4 M) := ⟨_, rfl⟩
    rw [← hL2] at hd2 hu2
    rw [← hL1] at hd2 hu1 hK1
    rw [← hL3] at hd3 hu3
    clear hL1 hL2 hL3
    by_cases h2 : 804 < N + M + 1
    · have h2i : ¬ (N : Int) + (M : Int) + 1 ≤ 804 := by omega
      simp only [if_pos h2] at hd2
      have huz : usedL L1 ≤ 1000000 := by omega
      have hsp := fun (W : World) (h : KAt W p L1 false) => space_any h (by omega)
      rw [hu1] at hsp
      by_cases h3 : 804 < M
      · have hMi : ¬ (M : Int) ≤ 804 := by omega
        have hMi2 : (804 : Int) < (M : Int) := by omega
        simp only [if_pos h3] at hd3
        have hsp3 := fun (W : World) (h : KAt W p L3 false) => space_any h (by omega)
        rw [hu3] at hsp3
        clear h2 h3 hu1 hu2 hu3
        go_wp2_with (first
          | (go_at_call 7; (with_reducible refine (hxM _).mono ?_); rintro e wa ⟨rfl, hga⟩)
          | (go_at_call 7; (with_reducible refine (hx1 _).mono ?_); rintro e wb ⟨rfl, hgb⟩)
          | (go_at_call 8; (with_reducible refine (hd2 _ (hK1.gr (hga.trans hgb)) (hg1.trans (hga.trans hgb))).mono ?_); rintro e wc ⟨rfl, hKc, huc⟩; have hgc := (hg1.trans (hga.trans hgb)).upd huc (by simpa using HP.out))
          | (go_at_call 9; (with_reducible refine (hsp _ hKc).mono ?_); rintro e wd ⟨rfl, hgd⟩)
          | (go_at_call 7; (with_reducible refine (hxM _).mono ?_); rintro e we ⟨rfl, hge⟩)
          | (go_at_call 8; (with_reducible refine (hd3 _ _ (hKc.gr (by (repeat (first | with_reducible exact Gr.refl _ | with_reducible assumption | with_reducible refine Gr.setCell ?_ (by simp; try omega) _ | with_reducible refine Gr.alloc ?_ _ | with_reducible refine Gr.drew ?_ | with_reducible refine Gr.drewN ?_ _ | with_reducible refine Gr.trans ?_ (by assumption))))) huz (hgc.trans (by (repeat (first | with_reducible exact Gr.refl _ | with_reducible assumption | with_reducible refine Gr.setCell ?_ (by simp; try omega) _ | with_reducible refine Gr.alloc ?_ _ | with_reducible refine Gr.drew ?_ | with_reducible refine Gr.drewN ?_ _ | with_reducible refine Gr.trans ?_ (by assumption)))))).mono ?_); rintro e wf ⟨rfl, hKf, huf⟩; have hgf : Gr w wf := Gr.upd (hgc.trans (by (repeat (first | with_reducible exact Gr.refl _ | with_reducible assumption | with_reducible refine Gr.setCell ?_ (by simp; try omega) _ | with_reducible refine Gr.alloc ?_ _ | with_reducible refine Gr.drew ?_ | with_reducible refine Gr.drewN ?_ _ | with_reducible refine Gr.trans ?_ (by assumption))))) huf (by simpa using HP.out))
          | (go_at_call 9; (with_reducible refine (hsp3 _ hKf).mono ?_); rintro e wg ⟨rfl, hgg⟩))
        go_ret
        exact ⟨by first | rfl | (show Ending.returned (.bool (!decide ((M : Int) ≤ 804))) = _; rw [decide_eq_false (by omega)]; rfl), by (repeat (first | with_reducible exact Gr.refl _ | with_reducible assumption | with_reducible refine Gr.setCell ?_ (by simp; try omega) _ | with_reducible refine Gr.alloc ?_ _ | with_reducible refine Gr.drew ?_ | with_reducible refine Gr.drewN ?_ _ | with_reducible refine Gr.trans ?_ (by assumption)))⟩
      · have hMi : (M : Int) ≤ 804 := by omega
        have hMi2 : ¬ (804 : Int) < (M : Int) := by omega
        simp only [if_neg h3] at hd3
        have hsp3 := fun (W : World) (h : KAt W p L3 false) => space_any h (by omega)
        rw [hu3] at hsp3
        clear h2 h3 hu1 hu2 hu3
        go_wp2_with (first
          | (go_at_call 7; (with_reducible refine (hxM _).mono ?_); rintro e wa ⟨rfl, hga⟩)
          | (go_at_call 7; (with_reducible refine (hx1 _).mono ?_); rintro e wb ⟨rfl, hgb⟩)
          | (go_at_call 8; (with_reducible refine (hd2 _ (hK1.gr (hga.trans hgb)) (hg1.trans (hga.trans hgb))).mono ?_); rintro e wc ⟨rfl, hKc, huc⟩; have hgc := (hg1.trans (hga.trans hgb)).upd huc (by simpa using HP.out))
          | (go_at_call 9; (with_reducible refine (hsp _ hKc).mono ?_); rintro e wd ⟨rfl, hgd⟩)
          | (go_at_call 7; (with_reducible refine (hxM _).mono ?_); rintro e we ⟨rfl, hge⟩)
          | (go_at_call 8; (with_reducible refine (hd3 _ _ (hKc.gr (by (repeat (first | with_reducible exact Gr.refl _ | with_reducible assumption | with_reducible refine Gr.setCell ?_ (by simp; try omega) _ | with_reducible refine Gr.alloc ?_ _ | with_reducible refine Gr.drew ?_ | with_reducible refine Gr.drewN ?_ _ | with_reducible refine Gr.trans ?_ (by assumption))))) huz (hgc.trans (by (repeat (first | with_reducible exact Gr.refl _ | with_reducible assumption | with_reducible refine Gr.setCell ?_ (by simp; try omega) _ | with_reducible refine Gr.alloc ?_ _ | with_reducible refine Gr.drew ?_ | with_reducible refine Gr.drewN ?_ _ | with_reducible refine Gr.trans ?_ (by assumption)))))).mono ?_); rintro e wf ⟨rfl, hKf, huf⟩; have hgf : Gr w wf := Gr.upd (hgc.trans (by (repeat (first | with_reducible exact Gr.refl _ | with_reducible assumption | with_reducible refine Gr.setCell ?_ (by simp; try omega) _ | with_reducible refine Gr.alloc ?_ _ | with_reducible refine Gr.drew ?_ | with_reducible refine Gr.drewN ?_ _ | with_reducible refine Gr.trans ?_ (by assumption))))) huf (by simpa using HP.out))
          | (go_at_call 9; (with_reducible refine (hsp3 _ hKf).mono ?_); rintro e wg ⟨rfl, hgg⟩))
        go_ret
        exact ⟨by first | rfl | (show Ending.returned (.bool (!decide ((M : Int) ≤ 804))) = _; rw [decide_eq_false (by omega)]; rfl), by (repeat (first | with_reducible exact Gr.refl _ | with_reducible assumption | with_reducible refine Gr.setCell ?_ (by simp; try omega) _ | with_reducible refine Gr.alloc ?_ _ | with_reducible refine Gr.drew ?_ | with_reducible refine Gr.drewN ?_ _ | with_reducible refine Gr.trans ?_ (by assumption)))⟩
    · have h2i : (N : Int) + (M : Int) + 1 ≤ 804 := by omega
      simp only [if_neg h2] at hd2
      have huz : usedL L2 ≤ 1000000 := by omega
      have hsp : True := trivial
      by_cases h3 : 804 < M
      · have hMi : ¬ (M : Int) ≤ 804 := by omega
        have hMi2 : (804 : Int) < (M : Int) := by omega
        simp only [if_pos h3] at hd3
        have hsp3 := fun (W : World) (h : KAt W p L3 false) => space_any h (by omega)
        rw [hu3] at hsp3
        clear h2 h3 hu1 hu2 hu3
        go_wp2_with (first
          | (go_at_call 7; (with_reducible refine (hxM _).mono ?_); rintro e wa ⟨rfl, hga⟩)
          | (go_at_call 7; (with_reducible refine (hx1 _).mono ?_); rintro e wb ⟨rfl, hgb⟩)
          | (go_at_call 8; (with_reducible refine (hd2 _ (hK1.gr (hga.trans hgb)) (hg1.trans (hga.trans hgb))).mono ?_); rintro e wc ⟨rfl, hKc, huc⟩; have hgc := (hg1.trans (hga.trans hgb)).upd huc (by simpa using HP.out))
          | (go_at_call 9; (with_reducible refine (hsp _ hKc).mono ?_); rintro e wd ⟨rfl, hgd⟩)
          | (go_at_call 7; (with_reducible refine (hxM _).mono ?_); rintro e we ⟨rfl, hge⟩)
          | (go_at_call 8; (with_reducible refine (hd3 _ _ (hKc.gr (by (repeat (first | with_reducible exact Gr.refl _ | with_reducible assumption | with_reducible refine Gr.setCell ?_ (by simp; try omega) _ | with_reducible refine Gr.alloc ?_ _ | with_reducible refine Gr.drew ?_ | with_reducible refine Gr.drewN ?_ _ | with_reducible refine Gr.trans ?_ (by assumption))))) huz (hgc.trans (by (repeat (first | with_reducible exact Gr.refl _ | with_reducible assumption | with_reducible refine Gr.setCell ?_ (by simp; try omega) _ | with_reducible refine Gr.alloc ?_ _ | with_reducible refine Gr.drew ?_ | with_reducible refine Gr.drewN ?_ _ | with_reducible refine Gr.trans ?_ (by assumption)))))).mono ?_); rintro e wf ⟨rfl, hKf, huf⟩; have hgf : Gr w wf := Gr.upd (hgc.trans (by (repeat (first | with_reducible exact Gr.refl _ | with_reducible assumption | with_reducible refine Gr.setCell ?_ (by simp; try omega) _ | with_reducible refine Gr.alloc ?_ _ | with_reducible refine Gr.drew ?_ | with_reducible refine Gr.drewN ?_ _ | with_reducible refine Gr.trans ?_ (by assumption))))) huf (by simpa using HP.out))
          | (go_at_call 9; (with_reducible refine (hsp3 _ hKf).mono ?_); rintro e wg ⟨rfl, hgg⟩))
        go_ret
        exact ⟨by first | rfl | (show Ending.returned (.bool (!decide ((M : Int) ≤ 804))) = _; rw [decide_eq_false (by omega)]; rfl), by (repeat (first | with_reducible exact Gr.refl _ | with_reducible assumption | with_reducible refine Gr.setCell ?_ (by simp; try omega) _ | with_reducible refine Gr.alloc ?_ _ | with_reducible refine Gr.drew ?_ | with_reducible refine Gr.drewN ?_ _ | with_reducible refine Gr.trans ?_ (by assumption)))⟩
      · have hMi : (M : Int) ≤ 804 := by omega
        have hMi2 : ¬ (804 : Int) < (M : Int) := by omega
        simp only [if_neg h3] at hd3
        have hsp3 := fun (W : World) (h : KAt W p L3 false) => space_any h (by omega)
        rw [hu3] at hsp3
        clear h2 h3 hu1 hu2 hu3
        go_wp2_with (first
          | (go_at_call 7; (with_reducible refine (hxM _).mono ?_); rintro e wa ⟨rfl, hga⟩)
          | (go_at_call 7; (with_reducible refine (hx1 _).mono ?_); rintro e wb ⟨rfl, hgb⟩)
          | (go_at_call 8; (with_reducible refine (hd2 _ (hK1.gr (hga.trans hgb)) (hg1.trans (hga.trans hgb))).mono ?_); rintro e wc ⟨rfl, hKc, huc⟩; have hgc := (hg1.trans (hga.trans hgb)).upd huc (by simpa using HP.out))
          | (go_at_call 9; (with_reducible refine (hsp _ hKc).mono ?_); rintro e wd ⟨rfl, hgd⟩)
          | (go_at_call 7; (with_reducible refine (hxM _).mono ?_); rintro e we ⟨rfl, hge⟩)
          | (go_at_call 8; (with_reducible refine (hd3 _ _ (hKc.gr (by (repeat (first | with_reducible exact Gr.refl _ | with_reducible assumption | with_reducible refine Gr.setCell ?_ (by simp; try omega) _ | with_reducible refine Gr.alloc ?_ _ | with_reducible refine Gr.drew ?_ | with_reducible refine Gr.drewN ?_ _ | with_reducible refine Gr.trans ?_ (by assumption))))) huz (hgc.trans (by (repeat (first | with_reducible exact Gr.refl _ | with_reducible assumption | with_reducible refine Gr.setCell ?_ (by simp; try omega) _ | with_reducible refine Gr.alloc ?_ _ | with_reducible refine Gr.drew ?_ | with_reducible refine Gr.drewN ?_ _ | with_reducible refine Gr.trans ?_ (by assumption)))))).mono ?_); rintro e wf ⟨rfl, hKf, huf⟩; have hgf : Gr w wf := Gr.upd (hgc.trans (by (repeat (first | with_reducible exact Gr.refl _ | with_reducible assumption | with_reducible refine Gr.setCell ?_ (by simp; try omega) _ | with_reducible refine Gr.alloc ?_ _ | with_reducible refine Gr.drew ?_ | with_reducible refine Gr.drewN ?_ _ | with_reducible refine Gr.trans ?_ (by assumption))))) huf (by simpa using HP.out))
          | (go_at_call 9; (with_reducible refine (hsp3 _ hKf).mono ?_); rintro e wg ⟨rfl, hgg⟩))
        go_ret
        exact ⟨by first | rfl | (show Ending.returned (.bool (!decide ((M : Int) ≤ 804))) = _; rw [decide_eq_false (by omega)]; rfl), by (repeat (first | with_reducible exact Gr.refl _ | with_reducible assumption | with_reducible refine Gr.setCell ?_ (by simp; try omega) _ | with_reducible refine Gr.alloc ?_ _ | with_reducible refine Gr.drew ?_ | with_reducible refine Gr.drewN ?_ _ | with_reducible refine Gr.trans ?_ (by assumption)))⟩

theorem full_law (n m : Int) (w : World) (hlaid : laidMetH Tryd.prog Rows.udkFullRow.laid w) (hsh : w.ShapedOpen Tryd.prog) :
    Calls Tryd.prog 3 #[.int .i64 n, .int .i64 m] w fun e w' => e = .returned (.bool true) ∧ Gr w w' :=
  full_walk n m w (MaxOk.of hsh)
end Go.Proofs.YtdfohcnejdhkiaaDoor
