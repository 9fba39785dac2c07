/-
  What the keyboard sends: modes that are set, the law's own functions and its fixed fact, walked (gen_kyf.py).
-/
import Derived.Test.YtonbnmicgmnliaaGreatDoorZOrd6
import Derived.Test.YtonbnmicgmnliaaGreatDoorZKyE
import Derived.Test.YtonbnmicgmnliaaGreatDoorZUdI
namespace Go.Proofs.YtonbnmicgmnliaaGreatDoor
set_option linter.unusedSimpArgs false
set_option linter.unusedVariables false
open Go.RowKit
set_option linter.unusedVariables false

theorem u32_andNot (a b : BitVec 32) : bits .andNot .u32 (a.toNat : Int) (b.toNat : Int) = ((a &&& ~~~b).toNat : Int) := by
  show IntKind.u32.wrap ((BitVec.ofInt 32 (a.toNat : Int) &&& ~~~ BitVec.ofInt 32 (b.toNat : Int)).toNat : Int) = _
  rw [ofInt_u32, ofInt_u32, wrap_u32]
theorem set_on (m : BitVec 32) (x : Nat) (k : Int) (hk : k = ((1#32 <<< x).toNat : Int)) : bits .or .u32 (m.toNat : Int) k = ((setB m x true).toNat : Int) := by
  rw [hk, u32_or]; rfl
theorem set_off (m : BitVec 32) (x : Nat) (k : Int) (hk : k = ((1#32 <<< x).toNat : Int)) : bits .andNot .u32 (m.toNat : Int) k = ((setB m x false).toNat : Int) := by
  rw [hk, u32_andNot]; rfl
set_option maxRecDepth 100000 in
theorem with_4 (m : BitVec 32) (on : Bool) (w : World) : Calls Tryz.prog 10 #[.int .u32 (m.toNat : Int), .int .i64 4, .bool on] w fun e w' => e = .returned (.int .u32 ((setB m 4 on).toNat : Int)) ∧ w = w' := by
  have h1 := set_on m 4 16 (by decide)
  have h2 := set_off m 4 16 (by decide)
  have hlt := m.isLt
  have h0 : (0 : Int) ≤ (m.toNat : Int) := by omega
  have h3 : (m.toNat : Int) < 4294967296 := by omega
  cases on
  · clear h1
    go_enter Tryz.func10, Tryz.ntmps10
    go_wp2_with (go_at_call 15; (with_reducible refine (is_true _ (by omega) (by omega) _).mono ?_); rintro e w1 ⟨rfl, rfl⟩)
    go_ret
    exact ⟨rfl, rfl⟩
  · clear h2
    go_enter Tryz.func10, Tryz.ntmps10
    go_wp2_with (go_at_call 15; (with_reducible refine (is_true _ (by omega) (by omega) _).mono ?_); rintro e w1 ⟨rfl, rfl⟩)
    go_ret
    exact ⟨rfl, rfl⟩
set_option maxRecDepth 100000 in
theorem own22 (k c : Int) (sh ct : Bool) (w : World) : Calls Tryz.prog 7 #[.agg #[.int .i64 k, .int .u8 c, .bool sh, .bool ct]] w fun e w' => e = .returned (.agg #[.int .i64 k, .int .u8 c, .bool sh, .bool ct]) ∧ Gr w w' := by
  go_enter Tryz.func7, Tryz.ntmps7
  go_wp2_with fail
  refine bodyPost_ret (v := .agg #[.int .i64 k, .int .u8 c, .bool sh, .bool ct]) (by simp [results, Tryz.results7, go_sem, Act.put]) (by simp [Act.put]) ?_
  exact ⟨rfl, ((Gr.refl w).alloc _).alloc _⟩
def awF  : Nat → Value → World → Prop
  | 0, v, _ => v = .agg #[.int .i64 5, .int .u8 0, .bool false, .bool false]
  | 1, v, w' => ∃ va n vc, v = .slice va n vc ∧ HasRow w' 5 (.slice va n vc) n (bcells [27, 91, 65])
  | 2, v, _ => v = .string ⟨#[27, 91, 65]⟩
  | 3, v, _ => v = .bool true
  | 4, v, _ => v = .bool true
  | 5, v, _ => v = .agg #[.int .i64 5, .int .u8 0, .bool false, .bool false]
  | 6, v, _ => v = .int .u32 16
  | 7, v, w' => ∃ va n vc, v = .slice va n vc ∧ HasRow w' 5 (.slice va n vc) n (bcells [27, 79, 65])
  | 8, v, _ => v = .string ⟨#[27, 79, 65]⟩
  | 9, v, _ => v = .bool true
  | 10, v, _ => v = .bool true
  | 11, v, _ => v = .bool true
  | 12, v, _ => v = .agg #[.int .i64 16, .int .u8 6, .bool false, .bool false]
  | 13, v, w' => ∃ va n vc, v = .slice va n vc ∧ HasRow w' 5 (.slice va n vc) n (bcells [27, 91, 49, 55, 126])
  | 14, v, _ => v = .string ⟨#[27, 91, 49, 55, 126]⟩
  | 15, v, _ => v = .bool true
  | 16, v, _ => v = .bool true
  | 17, v, _ => v = .bool true
  | _, _, _ => True
theorem awF.gr  {w1 w2 : World} {j : Nat} {u : Value} (h : awF  j u w1) (hg : Gr w1 w2) : awF  j u w2 := by
  unfold awF at h ⊢
  split <;> first | exact h | skip
  · obtain ⟨va, n, vc, e, h1⟩ := h; exact ⟨va, n, vc, e, h1.gr hg⟩
  · obtain ⟨va, n, vc, e, h1⟩ := h; exact ⟨va, n, vc, e, h1.gr hg⟩
  · obtain ⟨va, n, vc, e, h1⟩ := h; exact ⟨va, n, vc, e, h1.gr hg⟩
  all_goals trivial
theorem enc_1 : encK 5 0 false false (hasB 0#32 0) (hasB 0#32 3) (hasB 0#32 4) (hasB 0#32 12) (hasB 0#32 13) 5 false noL = [27, 91, 65] := by decide +kernel
theorem enc_2 : encK 5 0 false false (hasB 16#32 0) (hasB 16#32 3) (hasB 16#32 4) (hasB 16#32 12) (hasB 16#32 13) 5 false noL = [27, 79, 65] := by decide +kernel
theorem enc_3 : encK 16 6 false false (hasB 0#32 0) (hasB 0#32 3) (hasB 0#32 4) (hasB 0#32 12) (hasB 0#32 13) 5 false noL = [27, 91, 49, 55, 126] := by decide +kernel
set_option maxRecDepth 100000 in
set_option maxHeartbeats 4000000 in
theorem awake22 {w : World} (hT : tabT w) : Calls Tryz.prog 4 #[] w fun e w' => e = .returned (.bool true) ∧ Gr w w' := by
  have hK := KAt.fresh w
  have hg0 := ((Gr.refl w).alloc (.cells #[.string ⟨#[]⟩, .string ⟨#[]⟩, .string ⟨#[]⟩, .string ⟨#[]⟩, .string ⟨#[]⟩, .string ⟨#[]⟩, .string ⟨#[]⟩, .string ⟨#[]⟩, .string ⟨#[]⟩, .string ⟨#[]⟩, .string ⟨#[]⟩, .string ⟨#[]⟩, .string ⟨#[]⟩, .string ⟨#[]⟩, .string ⟨#[]⟩, .string ⟨#[]⟩, .string ⟨#[]⟩, .string ⟨#[]⟩, .bool false] 27)).alloc (.cells #[.int .i64 5, .int .u8 0, .bool false, .bool false] 33)
  have hg1 := (Gr.refl (w.alloc (.cells #[.string ⟨#[]⟩, .string ⟨#[]⟩, .string ⟨#[]⟩, .string ⟨#[]⟩, .string ⟨#[]⟩, .string ⟨#[]⟩, .string ⟨#[]⟩, .string ⟨#[]⟩, .string ⟨#[]⟩, .string ⟨#[]⟩, .string ⟨#[]⟩, .string ⟨#[]⟩, .string ⟨#[]⟩, .string ⟨#[]⟩, .string ⟨#[]⟩, .string ⟨#[]⟩, .string ⟨#[]⟩, .string ⟨#[]⟩, .bool false] 27))).alloc (.cells #[.int .i64 5, .int .u8 0, .bool false, .bool false] 33)
  have hev := heap_new2 w (.cells #[.string ⟨#[]⟩, .string ⟨#[]⟩, .string ⟨#[]⟩, .string ⟨#[]⟩, .string ⟨#[]⟩, .string ⟨#[]⟩, .string ⟨#[]⟩, .string ⟨#[]⟩, .string ⟨#[]⟩, .string ⟨#[]⟩, .string ⟨#[]⟩, .string ⟨#[]⟩, .string ⟨#[]⟩, .string ⟨#[]⟩, .string ⟨#[]⟩, .string ⟨#[]⟩, .string ⟨#[]⟩, .string ⟨#[]⟩, .bool false] 27) (.cells #[.int .i64 5, .int .u8 0, .bool false, .bool false] 33)
  obtain ⟨w2, hw2⟩ : ∃ w2, w2 = (w.alloc (.cells #[.string ⟨#[]⟩, .string ⟨#[]⟩, .string ⟨#[]⟩, .string ⟨#[]⟩, .string ⟨#[]⟩, .string ⟨#[]⟩, .string ⟨#[]⟩, .string ⟨#[]⟩, .string ⟨#[]⟩, .string ⟨#[]⟩, .string ⟨#[]⟩, .string ⟨#[]⟩, .string ⟨#[]⟩, .string ⟨#[]⟩, .string ⟨#[]⟩, .string ⟨#[]⟩, .string ⟨#[]⟩, .string ⟨#[]⟩, .bool false] 27)).alloc (.cells #[.int .i64 5, .int .u8 0, .bool false, .bool false] 33) := ⟨_, rfl⟩
  have hK2 := hK.gr hg1
  rw [← hw2] at hK2 hev hg0
  have e1 := fun (W : World) (hg : Gr w2 W) => encode_any 5 0 false false 0#32 5 false w.heap.size (hT.gr (hg0.trans hg)) (hK2.gr hg) (by decide)
  have e2 := fun (W : World) (hg : Gr w2 W) => encode_any 5 0 false false 16#32 5 false w.heap.size (hT.gr (hg0.trans hg)) (hK2.gr hg) (by decide)
  have e3 := fun (W : World) (hg : Gr w2 W) => encode_any 16 6 false false 0#32 5 false w.heap.size (hT.gr (hg0.trans hg)) (hK2.gr hg) (by decide)
  rw [enc_1, show ((0#32).toNat : Int) = 0 from rfl] at e1
  rw [enc_2, show ((16#32).toNat : Int) = 16 from rfl] at e2
  rw [enc_3, show ((0#32).toNat : Int) = 0 from rfl] at e3
  have E1 := Lib.hid e1
  have E2 := Lib.hid e2
  have E3 := Lib.hid e3
  have HC := Lib.hid (fun (w9 : World) (hg : Gr w2 w9) => (⟨hg.cellAt (cell_of_row hev 0 _ rfl), hg.cellAt (cell_of_row hev 1 _ rfl), hg.cellAt (cell_of_row hev 2 _ rfl), hg.cellAt (cell_of_row hev 3 _ rfl)⟩ : w9.cell? ⟨w.heap.size + 1, 0, none⟩ = some (.int .i64 5) ∧ w9.cell? ⟨w.heap.size + 1, 1, none⟩ = some (.int .u8 0) ∧ w9.cell? ⟨w.heap.size + 1, 2, none⟩ = some (.bool false) ∧ w9.cell? ⟨w.heap.size + 1, 3, none⟩ = some (.bool false)))
  clear e1 e2 e3 hK hK2 hev hg1 hT
  have HW := Lib.hid hw2
  go_enter Tryz.func4, Tryz.ntmps4
  go_upto_region 3 with (fail)
  rw [← hw2]
  clear hw2 HW
  refine wp_region_facts6 awF (Gr w2) (by kernel_rfl) (by kernel_rfl) (by kernel_rfl) (Gr.refl w2).drew ?_ ?_
  · intro hap
    refine Steps.cons1 1 rfl rfl ?_ (Steps.cons1 2 rfl rfl ?_ (Steps.cons1 3 rfl rfl ?_ (Steps.cons1 4 rfl rfl ?_ (Steps.cons1 5 rfl rfl ?_ (Steps.consY 6 rfl 4 true rfl hap (by kernel_rfl) ?_ ?_ (Steps.consY 7 rfl 4 true rfl hap (by kernel_rfl) ?_ ?_ (Steps.consY 8 rfl 4 true rfl hap (by kernel_rfl) ?_ ?_ (Steps.consY 9 rfl 4 true rfl hap (by kernel_rfl) ?_ ?_ (Steps.consY 10 rfl 4 true rfl hap (by kernel_rfl) ?_ ?_ (Steps.cons1 11 rfl rfl ?_ (Steps.cons1 12 rfl rfl ?_ (Steps.consY 13 rfl 11 true rfl hap (by kernel_rfl) ?_ ?_ (Steps.consY 14 rfl 11 true rfl hap (by kernel_rfl) ?_ ?_ (Steps.consY 15 rfl 11 true rfl hap (by kernel_rfl) ?_ ?_ (Steps.consY 16 rfl 11 true rfl hap (by kernel_rfl) ?_ ?_ (Steps.cons1 17 rfl rfl ?_ (Steps.cons1 18 rfl rfl ?_ (Steps.nil))))))))))))))))))
    · (intro ys w' hB hP; simp only [Preds, Region.binds, awF, forall_const, and_true, true_and] at hP)
      have q := HC.out w' hB
      obtain ⟨q0, q1, q2, q3⟩ := q
      intro K hK
      simp only [fillA]
      go_simp
      have h2 := hK _ w' hB rfl (fun j u _ h => h)
      simp [fillA, Act.put, hP] at h2
      exact h2
    · (intro ys w' hB hP; simp only [Preds, Region.binds, awF, forall_const, and_true, true_and] at hP)
      intro K hK
      simp only [fillA]
      go_simp
      (with_reducible refine (E1.out _ hB).mono ?_)
      rintro e w10 ⟨va, vc, rfl, hrow, hg10⟩
      have h2 := hK _ w10 (hB.trans hg10) ⟨va, _, vc, rfl, hrow⟩ (fun j u _ h => h.gr hg10)
      simp [fillA, Act.put, hP] at h2
      exact h2
    · (intro ys w' hB hP; simp only [Preds, Region.binds, awF, forall_const, and_true, true_and] at hP)
      obtain ⟨va, n, vc, hy, hrow⟩ : ∃ va n vc, ys 1 = .slice va n vc ∧ HasRow w' 5 (.slice va n vc) n (bcells [27, 91, 65]) := (by first | exact hP | exact hP.1 | exact hP.2 | exact hP.2.1 | exact hP.2.2 | exact hP.2.2.1 | exact hP.2.2.2 | exact hP.2.2.2.1 | exact hP.2.2.2.2 | exact hP.1.1 | exact hP.1.2)
      clear hP
      have hcv := conv_row hrow
      rw [show strOf [27, 91, 65] = ⟨#[27, 91, 65]⟩ from rfl] at hcv
      intro K hK
      simp only [fillA]
      go_simp
      have h2 := hK _ w' hB rfl (fun j u _ h => h)
      simp [fillA, Act.put, hy] at h2
      exact h2
    · (intro ys w' hB hP K hK; simp only [Preds, Region.binds, awF, forall_const, and_true, true_and] at hP; simp only [fillA]; go_simp; (have h2 := fun v => hK v w' hB); simp only [awF, forall_eq] at h2; (have h2 := h2 (fun _ _ _ h => h)); simp [fillA, Act.put, hP] at h2; exact h2)
    · (intro ys w' hB hP K hK; simp only [Preds, Region.binds, awF, forall_const, and_true, true_and] at hP; simp only [fillA]; go_simp; (have h2 := fun v => hK v w' hB); simp only [awF, forall_eq] at h2; (have h2 := h2 (fun _ _ _ h => h)); simp [fillA, Act.put, hP] at h2; exact h2)
    · (intro ys w' hB hP; simp only [Preds, Region.binds, awF, forall_const, and_true, true_and] at hP; simp [hP])
    · (intro ys w' hB hP; simp only [Preds, Region.binds, awF, forall_const, and_true, true_and] at hP)
      have q := HC.out w' hB
      obtain ⟨q0, q1, q2, q3⟩ := q
      intro K hK
      simp only [fillA]
      go_simp
      have h2 := hK _ w' hB rfl (fun j u _ h => h)
      simp [fillA, Act.put, hP] at h2
      exact h2
    · (intro ys w' hB hP; simp only [Preds, Region.binds, awF, forall_const, and_true, true_and] at hP; simp [hP])
    · (intro ys w' hB hP; simp only [Preds, Region.binds, awF, forall_const, and_true, true_and] at hP)
      intro K hK
      simp only [fillA]
      go_simp
      have hw4 : Calls Tryz.prog 10 #[.int .u32 0, .int .i64 4, .bool true] w' fun e w9 => e = .returned (.int .u32 16) ∧ w' = w9 := with_4 0#32 true w'
      (with_reducible refine hw4.mono ?_)
      clear hw4
      rintro e w10 ⟨rfl, rfl⟩
      have h2 := hK (.int .u32 16) w' hB rfl (fun j u _ h => h)
      simp [fillA, Act.put, hP] at h2
      exact h2
    · (intro ys w' hB hP; simp only [Preds, Region.binds, awF, forall_const, and_true, true_and] at hP; simp [hP])
    · (intro ys w' hB hP; simp only [Preds, Region.binds, awF, forall_const, and_true, true_and] at hP)
      intro K hK
      simp only [fillA]
      go_simp
      (with_reducible refine (E2.out _ hB).mono ?_)
      rintro e w10 ⟨va, vc, rfl, hrow, hg10⟩
      have h2 := hK _ w10 (hB.trans hg10) ⟨va, _, vc, rfl, hrow⟩ (fun j u _ h => h.gr hg10)
      simp [fillA, Act.put, hP] at h2
      exact h2
    · (intro ys w' hB hP; simp only [Preds, Region.binds, awF, forall_const, and_true, true_and] at hP; simp [hP])
    · (intro ys w' hB hP; simp only [Preds, Region.binds, awF, forall_const, and_true, true_and] at hP)
      obtain ⟨va, n, vc, hy, hrow⟩ : ∃ va n vc, ys 7 = .slice va n vc ∧ HasRow w' 5 (.slice va n vc) n (bcells [27, 79, 65]) := (by first | exact hP | exact hP.1 | exact hP.2 | exact hP.2.1 | exact hP.2.2 | exact hP.2.2.1 | exact hP.2.2.2 | exact hP.2.2.2.1 | exact hP.2.2.2.2 | exact hP.1.1 | exact hP.1.2)
      have hgd : ys 4 = .bool true := (by first | exact hP | exact hP.1 | exact hP.2 | exact hP.2.1 | exact hP.2.2 | exact hP.2.2.1 | exact hP.2.2.2 | exact hP.2.2.2.1 | exact hP.2.2.2.2 | exact hP.1.1 | exact hP.1.2)
      clear hP
      have hcv := conv_row hrow
      rw [show strOf [27, 79, 65] = ⟨#[27, 79, 65]⟩ from rfl] at hcv
      intro K hK
      simp only [fillA]
      go_simp
      have h2 := hK _ w' hB rfl (fun j u _ h => h)
      simp [fillA, Act.put, hy, hgd] at h2
      exact h2
    · (intro ys w' hB hP; simp only [Preds, Region.binds, awF, forall_const, and_true, true_and] at hP; simp [hP])
    · (intro ys w' hB hP K hK; simp only [Preds, Region.binds, awF, forall_const, and_true, true_and] at hP; simp only [fillA]; go_simp; (have h2 := fun v => hK v w' hB); simp only [awF, forall_eq] at h2; (have h2 := h2 (fun _ _ _ h => h)); simp [fillA, Act.put, hP] at h2; exact h2)
    · (intro ys w' hB hP K hK; simp only [Preds, Region.binds, awF, forall_const, and_true, true_and] at hP; simp only [fillA]; go_simp; (have h2 := fun v => hK v w' hB); simp only [awF, forall_eq] at h2; (have h2 := h2 (fun _ _ _ h => h)); simp [fillA, Act.put, hP] at h2; exact h2)
    · (intro ys w' hB hP K hK; simp only [Preds, Region.binds, awF, forall_const, and_true, true_and] at hP; simp only [fillA]; go_simp; (have h2 := fun v => hK v w' hB); simp only [awF, forall_eq] at h2; (have h2 := h2 (fun _ _ _ h => h)); simp [fillA, Act.put, hP] at h2; exact h2)
    · (intro ys w' hB hP; simp only [Preds, Region.binds, awF, forall_const, and_true, true_and] at hP; simp [hP])
    · (intro ys w' hB hP K hK; simp only [Preds, Region.binds, awF, forall_const, and_true, true_and] at hP; simp only [fillA]; go_simp; (have h2 := fun v => hK v w' hB); simp only [awF, forall_eq] at h2; (have h2 := h2 (fun _ _ _ h => h)); simp [fillA, Act.put, hP] at h2; exact h2)
    · (intro ys w' hB hP; simp only [Preds, Region.binds, awF, forall_const, and_true, true_and] at hP; simp [hP])
    · (intro ys w' hB hP; simp only [Preds, Region.binds, awF, forall_const, and_true, true_and] at hP)
      intro K hK
      simp only [fillA]
      go_simp
      (with_reducible refine (E3.out _ hB).mono ?_)
      rintro e w10 ⟨va, vc, rfl, hrow, hg10⟩
      have h2 := hK _ w10 (hB.trans hg10) ⟨va, _, vc, rfl, hrow⟩ (fun j u _ h => h.gr hg10)
      simp [fillA, Act.put, hP] at h2
      exact h2
    · (intro ys w' hB hP; simp only [Preds, Region.binds, awF, forall_const, and_true, true_and] at hP; simp [hP])
    · (intro ys w' hB hP; simp only [Preds, Region.binds, awF, forall_const, and_true, true_and] at hP)
      obtain ⟨va, n, vc, hy, hrow⟩ : ∃ va n vc, ys 13 = .slice va n vc ∧ HasRow w' 5 (.slice va n vc) n (bcells [27, 91, 49, 55, 126]) := (by first | exact hP | exact hP.1 | exact hP.2 | exact hP.2.1 | exact hP.2.2 | exact hP.2.2.1 | exact hP.2.2.2 | exact hP.2.2.2.1 | exact hP.2.2.2.2 | exact hP.1.1 | exact hP.1.2)
      have hgd : ys 11 = .bool true := (by first | exact hP | exact hP.1 | exact hP.2 | exact hP.2.1 | exact hP.2.2 | exact hP.2.2.1 | exact hP.2.2.2 | exact hP.2.2.2.1 | exact hP.2.2.2.2 | exact hP.1.1 | exact hP.1.2)
      clear hP
      have hcv := conv_row hrow
      rw [show strOf [27, 91, 49, 55, 126] = ⟨#[27, 91, 49, 55, 126]⟩ from rfl] at hcv
      intro K hK
      simp only [fillA]
      go_simp
      have h2 := hK _ w' hB rfl (fun j u _ h => h)
      simp [fillA, Act.put, hy, hgd] at h2
      exact h2
    · (intro ys w' hB hP; simp only [Preds, Region.binds, awF, forall_const, and_true, true_and] at hP; simp [hP])
    · (intro ys w' hB hP K hK; simp only [Preds, Region.binds, awF, forall_const, and_true, true_and] at hP; simp only [fillA]; go_simp; (have h2 := fun v => hK v w' hB); simp only [awF, forall_eq] at h2; (have h2 := h2 (fun _ _ _ h => h)); simp [fillA, Act.put, hP] at h2; exact h2)
    · (intro ys w' hB hP K hK; simp only [Preds, Region.binds, awF, forall_const, and_true, true_and] at hP; simp only [fillA]; go_simp; (have h2 := fun v => hK v w' hB); simp only [awF, forall_eq] at h2; (have h2 := h2 (fun _ _ _ h => h)); simp [fillA, Act.put, hP] at h2; exact h2)
    · (intro ys w' hB hP K hK; simp only [Preds, Region.binds, awF, forall_const, and_true, true_and] at hP; simp only [fillA]; go_simp; (have h2 := fun v => hK v w' hB); simp only [awF, forall_eq] at h2; (have h2 := h2 (fun _ _ _ h => h)); simp [fillA, Act.put, hP] at h2; exact h2)
  · intro ys3 w11 hB3 hF
    have f17 : ys3 17 = .bool true := hF 17 (by decide)
    clear hF
    simp only [fillA, f17, Act.put, Nat.zero_add, List.setIfInBounds_toArray, List.set_cons_zero, List.set_cons_succ]
    clear f17
    go_wp2_with fail
    go_ret
    exact ⟨rfl, hg0.trans hB3⟩
end Go.Proofs.YtonbnmicgmnliaaGreatDoor
