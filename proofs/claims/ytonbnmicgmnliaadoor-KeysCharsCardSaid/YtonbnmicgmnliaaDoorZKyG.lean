/-
  The law KeysModes: what a key sends hangs on five modes alone; walked (gen_kyg.py).
-/
import Derived.LoopN
import Derived.Test.YtonbnmicgmnliaaDoorZKyF
namespace Go.Proofs.YtonbnmicgmnliaaDoor
set_option linter.unusedSimpArgs false
set_option linter.unusedVariables false
open Go.RowKit
set_option linter.unusedVariables false

def kmF (g3 g4 p : Nat) (k c : Int) (sh ct : Bool) (m o : BitVec 32) (lv : Int) (ei : Bool) (R : List Int) (X : ByteArray) : Nat → Value → World → Prop
  | 0, v, _ => v = .agg #[.int .i64 k, .int .u8 c, .bool sh, .bool ct]
  | 1, v, _ => v = .agg #[.int .i64 k, .int .u8 c, .bool sh, .bool ct]
  | 2, v, _ => v = .pointer (some ⟨g4, 0, none⟩)
  | 3, v, _ => v = .int .u32 (m.toNat : Int)
  | 4, v, _ => v = .pointer (some ⟨g4, 1, none⟩)
  | 5, v, _ => v = .int .i64 lv
  | 6, v, _ => v = .pointer (some ⟨g4, 2, none⟩)
  | 7, v, _ => v = .bool ei
  | 8, v, _ => v = .pointer (some ⟨p, 0, none⟩)
  | 9, v, w' => ∃ va n vc, v = .slice va n vc ∧ HasRow w' 5 (.slice va n vc) n (bcells R)
  | 10, v, _ => v = .string X
  | 11, v, _ => v = .agg #[.int .i64 k, .int .u8 c, .bool sh, .bool ct]
  | 12, v, _ => v = .agg #[.int .i64 k, .int .u8 c, .bool sh, .bool ct]
  | 13, v, _ => v = .int .u32 (o.toNat : Int)
  | 14, v, _ => v = .pointer (some ⟨g4, 1, none⟩)
  | 15, v, _ => v = .int .i64 lv
  | 16, v, _ => v = .pointer (some ⟨g4, 2, none⟩)
  | 17, v, _ => v = .bool ei
  | 18, v, _ => v = .pointer (some ⟨p, 0, none⟩)
  | 19, v, w' => ∃ va n vc, v = .slice va n vc ∧ HasRow w' 5 (.slice va n vc) n (bcells R)
  | 20, v, _ => v = .string X
  | 21, v, _ => v = .bool true
  | 22, v, _ => v = .bool true
  | _, _, _ => True
theorem kmF.gr {g3 g4 p : Nat} {k c : Int} {sh ct : Bool} {m o : BitVec 32} {lv : Int} {ei : Bool} {R : List Int} {X : ByteArray} {w1 w2 : World} {j : Nat} {u : Value} (h : kmF g3 g4 p k c sh ct m o lv ei R X j u w1) (hg : Gr w1 w2) : kmF g3 g4 p k c sh ct m o lv ei R X j u w2 := by
  unfold kmF at h ⊢
  split <;> first | exact h | skip
  · obtain ⟨va, n, vc, e, h1⟩ := h; exact ⟨va, n, vc, e, h1.gr hg⟩
  · obtain ⟨va, n, vc, e, h1⟩ := h; exact ⟨va, n, vc, e, h1.gr hg⟩
  all_goals trivial
/-- Modes with five of them as others have them. -/
def five (o m : BitVec 32) : BitVec 32 := setB (setB (setB (setB (setB o 0 (hasB m 0)) 3 (hasB m 3)) 4 (hasB m 4)) 12 (hasB m 12)) 13 (hasB m 13)
theorem five_has (o m : BitVec 32) : hasB (five o m) 0 = hasB m 0 ∧ hasB (five o m) 3 = hasB m 3 ∧ hasB (five o m) 4 = hasB m 4 ∧ hasB (five o m) 12 = hasB m 12 ∧ hasB (five o m) 13 = hasB m 13 := by
  unfold five
  refine ⟨?_, ?_, ?_, ?_, ?_⟩ <;> simp [has_set]
set_option maxRecDepth 100000 in
set_option maxHeartbeats 4000000 in
theorem modes_walk (k c : Int) (sh ct : Bool) (m o : BitVec 32) (lv : Int) (ei : Bool) (d : List UInt8) (w : World) (hT : tabT w) (hM : MaxOk w) (hc : 0 ≤ c ∧ c < 256) :
    Calls Tryd.prog 3 #[.agg #[.int .i64 k, .int .u8 c, .bool sh, .bool ct], .agg #[.int .u32 (m.toNat : Int), .int .i64 lv, .bool ei, .string (bsl d)], .int .u32 (o.toNat : Int)] w fun e w' => e = .returned (.bool true) ∧ Gr w w' := by
  have hE := heap_alloc_new w (.cells #[.int .i64 k, .int .u8 c, .bool sh, .bool ct] 23)
  have hB2 := heap_new2 w (.cells #[.int .i64 k, .int .u8 c, .bool sh, .bool ct] 23) (.cells #[.int .u32 (m.toNat : Int), .int .i64 lv, .bool ei, .string (bsl d)] 27)
  have hE2 := ((Gr.refl _).alloc (.cells #[.int .u32 (m.toNat : Int), .int .i64 lv, .bool ei, .string (bsl d)] 27)).blk hE
  have hg2 := ((Gr.refl w).alloc (.cells #[.int .i64 k, .int .u8 c, .bool sh, .bool ct] 23)).alloc (.cells #[.int .u32 (m.toNat : Int), .int .i64 lv, .bool ei, .string (bsl d)] 27)
  obtain ⟨w2, hw2⟩ : ∃ w2, w2 = (w.alloc (.cells #[.int .i64 k, .int .u8 c, .bool sh, .bool ct] 23)).alloc (.cells #[.int .u32 (m.toNat : Int), .int .i64 lv, .bool ei, .string (bsl d)] 27) := ⟨_, rfl⟩
  have htx := fun (W : World) (hg : Gr w2 W) => texts_any m lv ei d W (hM.gr ((hw2 ▸ hg2).trans hg))
  obtain ⟨tx, htxd⟩ : ∃ tx, tx = bsl d := ⟨_, rfl⟩
  rw [← htxd] at htx hw2 hB2 hE2 hg2 ⊢
  clear htxd hE
  rw [← hw2] at hB2 hE2 hg2
  have haw := awake22 (w := w2) (hT.gr hg2)
  have hh := hasFor m
  have hh0 := hh.h0
  have hh3 := hh.h3
  have hh4 := hh.h4
  have hh12 := hh.h12
  have hh13 := hh.h13
  clear hh
  have hcB : ∀ W, Gr w2 W → W.cell? ⟨w.heap.size + 1, 0, none⟩ = some (.int .u32 (m.toNat : Int)) ∧ W.cell? ⟨w.heap.size + 1, 1, none⟩ = some (.int .i64 lv) ∧ W.cell? ⟨w.heap.size + 1, 2, none⟩ = some (.bool ei) := fun W hg => ⟨hg.cellAt (cell_of_row hB2 0 _ rfl), hg.cellAt (cell_of_row hB2 1 _ rfl), hg.cellAt (cell_of_row hB2 2 _ rfl)⟩
  have hcB3 : ∀ W, Gr w2 W → W.cell? ⟨w.heap.size + 1, 3, none⟩ = some (.string tx) := fun W hg => hg.cellAt (cell_of_row hB2 3 _ rfl)
  have hcE : ∀ W, Gr w2 W → W.cell? ⟨w.heap.size, 0, none⟩ = some (.int .i64 k) ∧ W.cell? ⟨w.heap.size, 1, none⟩ = some (.int .u8 c) ∧ W.cell? ⟨w.heap.size, 2, none⟩ = some (.bool sh) ∧ W.cell? ⟨w.heap.size, 3, none⟩ = some (.bool ct) := fun W hg => ⟨hg.cellAt (cell_of_row hE2 0 _ rfl), hg.cellAt (cell_of_row hE2 1 _ rfl), hg.cellAt (cell_of_row hE2 2 _ rfl), hg.cellAt (cell_of_row hE2 3 _ rfl)⟩
  have HB2 := Lib.hid hcB
  have HB3 := Lib.hid hcB3
  have HE2 := Lib.hid hcE
  have HT := Lib.hid hT
  have HG := Lib.hid hg2
  obtain ⟨g4, hg4⟩ : ∃ g, g = w.heap.size + 1 := ⟨_, rfl⟩
  obtain ⟨g3, hg3⟩ : ∃ g, g = w.heap.size := ⟨_, rfl⟩
  rw [← hg4] at HB2 HB3
  rw [← hg3] at HE2
  clear hcB hcB3 hcE hB2 hE2 hT hg2 hM
  go_enter Tryd.func3, Tryd.ntmps3
  go_upto_region 1 with (fail)
  rw [← hw2, ← hg4, ← hg3]
  clear hw2 hg4 hg3
  go_upto_region 3 with (go_at_call 5; (with_reducible refine haw.mono ?_); rintro e w3 ⟨rfl, hg3⟩)
  clear haw
  have hgA := hg3.alloc (.cells #[.int .i64 0, .int .i64 3, .int .i64 4, .int .i64 12, .int .i64 13] 29)
  have hq := HB2.out _ hgA
  obtain ⟨hq0, hq1, hq2⟩ := hq
  have hq3 := HB3.out _ hgA
  have hmd := heap_alloc_new w3 (.cells #[.int .i64 0, .int .i64 3, .int .i64 4, .int .i64 12, .int .i64 13] 29)
  go_wp2_with fail
  refine wp_loop_rounds 6 ?_
  iterate 6 (rw [rounds_succ]; go_wp2_with (first
    | (go_at_call 7; (first | (with_reducible refine (hh0 _).mono ?_) | (with_reducible refine (hh3 _).mono ?_) | (with_reducible refine (hh4 _).mono ?_) | (with_reducible refine (hh12 _).mono ?_) | (with_reducible refine (hh13 _).mono ?_)); rintro e w5 ⟨rfl, rfl⟩)
    | (go_at_call 6; (first | (with_reducible refine (with_0 _ _ _).mono ?_) | (with_reducible refine (with_3 _ _ _).mono ?_) | (with_reducible refine (with_4 _ _ _).mono ?_) | (with_reducible refine (with_12 _ _ _).mono ?_) | (with_reducible refine (with_13 _ _ _).mono ?_)); rintro e w5 ⟨rfl, rfl⟩)
    | (go_at_call 8; (with_reducible refine (htx _ hgA).mono ?_); rintro e w8 ⟨p, L, lk, rfl, hK, hg8, _⟩)))
  have e5 : setB (setB (setB (setB (setB o 0 (hasB m 0)) 3 (hasB m 3)) 4 (hasB m 4)) 12 (hasB m 12)) 13 (hasB m 13) = five o m := rfl
  rw [e5]
  clear e5 hq0 hq1 hq2 hq3 hmd htx hh0 hh3 hh4 hh12 hh13
  have hgB := hgA.trans hg8
  clear hgA
  have ht8 := HT.out.gr (HG.out.trans hgB)
  have e1 := fun (W : World) (hg : Gr w8 W) => encode_any k c sh ct m lv ei p (ht8.gr hg) (hK.gr hg) hc
  have e2 := fun (W : World) (hg : Gr w8 W) => encode_any k c sh ct (five o m) lv ei p (ht8.gr hg) (hK.gr hg) hc
  obtain ⟨f0, f3, f4, f12, f13⟩ := five_has o m
  rw [f0, f3, f4, f12, f13] at e2
  obtain ⟨R, hR⟩ : ∃ R, R = encK k c sh ct (hasB m 0) (hasB m 3) (hasB m 4) (hasB m 12) (hasB m 13) lv ei L := ⟨_, rfl⟩
  rw [← hR] at e1 e2
  obtain ⟨o5, ho5⟩ : ∃ x, x = five o m := ⟨_, rfl⟩
  rw [← ho5] at e2 ⊢
  obtain ⟨X, hX⟩ : ∃ X, X = strOf R := ⟨_, rfl⟩
  have HX := Lib.hid hX
  have E1 := Lib.hid e1
  have E2 := Lib.hid e2
  have HE := Lib.hid (fun (w9 : World) (hg : Gr w8 w9) => HE2.out _ (hgB.trans hg))
  have HBD := Lib.hid (fun (w9 : World) (hg : Gr w8 w9) => HB2.out _ (hgB.trans hg))
  clear e1 e2 hR ho5 hX f0 f3 f4 f12 f13 ht8 hK HB2 HE2 HB3 HT
  have hgZ := HG.out.trans hgB
  clear hgB HG hg3
  refine wp_region_facts6 (kmF g3 g4 p k c sh ct m o5 lv ei R X) (Gr w8) (by kernel_rfl) (by kernel_rfl) (by kernel_rfl) (Gr.refl w8).drew ?_ ?_
  · intro hap
    refine Steps.cons1 1 rfl rfl ?_ (Steps.cons1 2 rfl rfl ?_ (Steps.cons1 3 rfl rfl ?_ (Steps.cons1 4 rfl rfl ?_ (Steps.cons1 5 rfl rfl ?_ (Steps.cons1 6 rfl rfl ?_ (Steps.cons1 7 rfl rfl ?_ (Steps.cons1 8 rfl rfl ?_ (Steps.cons1 9 rfl rfl ?_ (Steps.cons1 10 rfl rfl ?_ (Steps.cons1 11 rfl rfl ?_ (Steps.cons1 12 rfl rfl ?_ (Steps.cons1 13 rfl rfl ?_ (Steps.cons1 14 rfl rfl ?_ (Steps.cons1 15 rfl rfl ?_ (Steps.cons1 16 rfl rfl ?_ (Steps.cons1 17 rfl rfl ?_ (Steps.cons1 18 rfl rfl ?_ (Steps.cons1 19 rfl rfl ?_ (Steps.cons1 20 rfl rfl ?_ (Steps.cons1 21 rfl rfl ?_ (Steps.cons1 22 rfl rfl ?_ (Steps.cons1 23 rfl rfl ?_ (Steps.nil)))))))))))))))))))))))
    · (intro ys w' hB hP; simp only [Preds, Region.binds, kmF, forall_const, and_true, true_and] at hP)
      have q := HE.out w' hB
      obtain ⟨q0, q1, q2, q3⟩ := q
      intro K hK
      simp only [fillA]
      go_simp
      have h2 := hK _ w' hB rfl (fun j u _ h => h)
      simp [fillA, Act.put, hP] at h2
      exact h2
    · (intro ys w' hB hP; simp only [Preds, Region.binds, kmF, forall_const, and_true, true_and] at hP)
      intro K hK
      simp only [fillA]
      go_simp
      (with_reducible refine (own22 k c sh ct _).mono ?_)
      rintro e w10 ⟨rfl, hg10⟩
      have h2 := hK _ w10 (hB.trans hg10) rfl (fun j u _ h => h.gr hg10)
      simp [fillA, Act.put, hP] at h2
      exact h2
    · (intro ys w' hB hP K hK; simp only [Preds, Region.binds, kmF, forall_const, and_true, true_and] at hP; simp only [fillA]; go_simp; (have h2 := fun v => hK v w' hB); simp only [kmF, forall_eq] at h2; (have h2 := h2 (fun _ _ _ h => h)); simp [fillA, Act.put, hP] at h2; exact h2)
    · (intro ys w' hB hP; simp only [Preds, Region.binds, kmF, forall_const, and_true, true_and] at hP)
      have q := HBD.out w' hB
      obtain ⟨q0, q1, q2⟩ := q
      intro K hK
      simp only [fillA]
      go_simp
      have h2 := hK _ w' hB rfl (fun j u _ h => h)
      simp [fillA, Act.put, hP] at h2
      exact h2
    · (intro ys w' hB hP K hK; simp only [Preds, Region.binds, kmF, forall_const, and_true, true_and] at hP; simp only [fillA]; go_simp; (have h2 := fun v => hK v w' hB); simp only [kmF, forall_eq] at h2; (have h2 := h2 (fun _ _ _ h => h)); simp [fillA, Act.put, hP] at h2; exact h2)
    · (intro ys w' hB hP; simp only [Preds, Region.binds, kmF, forall_const, and_true, true_and] at hP)
      have q := HBD.out w' hB
      obtain ⟨q0, q1, q2⟩ := q
      intro K hK
      simp only [fillA]
      go_simp
      have h2 := hK _ w' hB rfl (fun j u _ h => h)
      simp [fillA, Act.put, hP] at h2
      exact h2
    · (intro ys w' hB hP K hK; simp only [Preds, Region.binds, kmF, forall_const, and_true, true_and] at hP; simp only [fillA]; go_simp; (have h2 := fun v => hK v w' hB); simp only [kmF, forall_eq] at h2; (have h2 := h2 (fun _ _ _ h => h)); simp [fillA, Act.put, hP] at h2; exact h2)
    · (intro ys w' hB hP; simp only [Preds, Region.binds, kmF, forall_const, and_true, true_and] at hP)
      have q := HBD.out w' hB
      obtain ⟨q0, q1, q2⟩ := q
      intro K hK
      simp only [fillA]
      go_simp
      have h2 := hK _ w' hB rfl (fun j u _ h => h)
      simp [fillA, Act.put, hP] at h2
      exact h2
    · (intro ys w' hB hP K hK; simp only [Preds, Region.binds, kmF, forall_const, and_true, true_and] at hP; simp only [fillA]; go_simp; (have h2 := fun v => hK v w' hB); simp only [kmF, forall_eq] at h2; (have h2 := h2 (fun _ _ _ h => h)); simp [fillA, Act.put, hP] at h2; exact h2)
    · (intro ys w' hB hP; simp only [Preds, Region.binds, kmF, forall_const, and_true, true_and] at hP)
      intro K hK
      simp only [fillA]
      go_simp
      (with_reducible refine (E1.out _ hB).mono ?_)
      rintro e w10 ⟨va, vc, rfl, hrow, hg10⟩
      have h2 := hK _ w10 (hB.trans hg10) ⟨va, _, vc, rfl, hrow⟩ (fun j u _ h => h.gr hg10)
      simp [fillA, Act.put, hP] at h2
      exact h2
    · (intro ys w' hB hP; simp only [Preds, Region.binds, kmF, forall_const, and_true, true_and] at hP)
      obtain ⟨va, n, vc, hy, hrow⟩ : ∃ va n vc, ys 9 = .slice va n vc ∧ HasRow w' 5 (.slice va n vc) n (bcells R) := (by first | exact hP | exact hP.1 | exact hP.2 | exact hP.2.1 | exact hP.2.2 | exact hP.2.2.1 | exact hP.2.2.2 | exact hP.2.2.2.1 | exact hP.2.2.2.2 | exact hP.1.1 | exact hP.1.2)
      clear hP
      have hcv := conv_row hrow
      rw [← HX.out] at hcv
      intro K hK
      simp only [fillA]
      go_simp
      have h2 := hK _ w' hB rfl (fun j u _ h => h)
      simp [fillA, Act.put, hy] at h2
      exact h2
    · (intro ys w' hB hP; simp only [Preds, Region.binds, kmF, forall_const, and_true, true_and] at hP)
      have q := HE.out w' hB
      obtain ⟨q0, q1, q2, q3⟩ := q
      intro K hK
      simp only [fillA]
      go_simp
      have h2 := hK _ w' hB rfl (fun j u _ h => h)
      simp [fillA, Act.put, hP] at h2
      exact h2
    · (intro ys w' hB hP; simp only [Preds, Region.binds, kmF, forall_const, and_true, true_and] at hP)
      intro K hK
      simp only [fillA]
      go_simp
      (with_reducible refine (own22 k c sh ct _).mono ?_)
      rintro e w10 ⟨rfl, hg10⟩
      have h2 := hK _ w10 (hB.trans hg10) rfl (fun j u _ h => h.gr hg10)
      simp [fillA, Act.put, hP] at h2
      exact h2
    · (intro ys w' hB hP K hK; simp only [Preds, Region.binds, kmF, forall_const, and_true, true_and] at hP; simp only [fillA]; go_simp; (have h2 := fun v => hK v w' hB); simp only [kmF, forall_eq] at h2; (have h2 := h2 (fun _ _ _ h => h)); simp [fillA, Act.put, hP] at h2; exact h2)
    · (intro ys w' hB hP K hK; simp only [Preds, Region.binds, kmF, forall_const, and_true, true_and] at hP; simp only [fillA]; go_simp; (have h2 := fun v => hK v w' hB); simp only [kmF, forall_eq] at h2; (have h2 := h2 (fun _ _ _ h => h)); simp [fillA, Act.put, hP] at h2; exact h2)
    · (intro ys w' hB hP; simp only [Preds, Region.binds, kmF, forall_const, and_true, true_and] at hP)
      have q := HBD.out w' hB
      obtain ⟨q0, q1, q2⟩ := q
      intro K hK
      simp only [fillA]
      go_simp
      have h2 := hK _ w' hB rfl (fun j u _ h => h)
      simp [fillA, Act.put, hP] at h2
      exact h2
    · (intro ys w' hB hP K hK; simp only [Preds, Region.binds, kmF, forall_const, and_true, true_and] at hP; simp only [fillA]; go_simp; (have h2 := fun v => hK v w' hB); simp only [kmF, forall_eq] at h2; (have h2 := h2 (fun _ _ _ h => h)); simp [fillA, Act.put, hP] at h2; exact h2)
    · (intro ys w' hB hP; simp only [Preds, Region.binds, kmF, forall_const, and_true, true_and] at hP)
      have q := HBD.out w' hB
      obtain ⟨q0, q1, q2⟩ := q
      intro K hK
      simp only [fillA]
      go_simp
      have h2 := hK _ w' hB rfl (fun j u _ h => h)
      simp [fillA, Act.put, hP] at h2
      exact h2
    · (intro ys w' hB hP K hK; simp only [Preds, Region.binds, kmF, forall_const, and_true, true_and] at hP; simp only [fillA]; go_simp; (have h2 := fun v => hK v w' hB); simp only [kmF, forall_eq] at h2; (have h2 := h2 (fun _ _ _ h => h)); simp [fillA, Act.put, hP] at h2; exact h2)
    · (intro ys w' hB hP; simp only [Preds, Region.binds, kmF, forall_const, and_true, true_and] at hP)
      intro K hK
      simp only [fillA]
      go_simp
      (with_reducible refine (E2.out _ hB).mono ?_)
      rintro e w10 ⟨va, vc, rfl, hrow, hg10⟩
      have h2 := hK _ w10 (hB.trans hg10) ⟨va, _, vc, rfl, hrow⟩ (fun j u _ h => h.gr hg10)
      simp [fillA, Act.put, hP] at h2
      exact h2
    · (intro ys w' hB hP; simp only [Preds, Region.binds, kmF, forall_const, and_true, true_and] at hP)
      obtain ⟨va, n, vc, hy, hrow⟩ : ∃ va n vc, ys 19 = .slice va n vc ∧ HasRow w' 5 (.slice va n vc) n (bcells R) := (by first | exact hP | exact hP.1 | exact hP.2 | exact hP.2.1 | exact hP.2.2 | exact hP.2.2.1 | exact hP.2.2.2 | exact hP.2.2.2.1 | exact hP.2.2.2.2 | exact hP.1.1 | exact hP.1.2)
      clear hP
      have hcv := conv_row hrow
      rw [← HX.out] at hcv
      intro K hK
      simp only [fillA]
      go_simp
      have h2 := hK _ w' hB rfl (fun j u _ h => h)
      simp [fillA, Act.put, hy] at h2
      exact h2
    · (intro ys w' hB hP K hK; simp only [Preds, Region.binds, kmF, forall_const, and_true, true_and] at hP; simp only [fillA]; go_simp; (have h2 := fun v => hK v w' hB); simp only [kmF, forall_eq] at h2; (have h2 := h2 (fun _ _ _ h => h)); simp [fillA, Act.put, hP] at h2; exact h2)
    · (intro ys w' hB hP K hK; simp only [Preds, Region.binds, kmF, forall_const, and_true, true_and] at hP; simp only [fillA]; go_simp; (have h2 := fun v => hK v w' hB); simp only [kmF, forall_eq] at h2; (have h2 := h2 (fun _ _ _ h => h)); simp [fillA, Act.put, hP] at h2; exact h2)
  · intro ys3 w11 hB3 hF
    have f22 : ys3 22 = .bool true := hF 22 (by decide)
    clear hF
    simp only [fillA, f22, Act.put, Nat.zero_add, List.setIfInBounds_toArray, List.set_cons_zero, List.set_cons_succ]
    clear f22
    go_wp2_with fail
    go_ret
    exact ⟨rfl, hgZ.trans hB3⟩
end Go.Proofs.YtonbnmicgmnliaaDoor
