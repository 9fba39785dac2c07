/-
  The law that bytes written as digits are read back, walked.
-/
import Derived.Test.YtaeppimldbknhaaMcM
import Derived.Test.YtaeppimldbknhaaOrd3
namespace Go.Proofs.Ytaeppimldbknhaa
set_option linter.unusedSimpArgs false
set_option linter.unusedVariables false
open Go.RowKit
set_option linter.unusedVariables false

/-- The operations that make the text of a repeat and decode it. -/
def mhF (w0 : World) (N : Nat) (c : UInt8) (l x4 x5 x6 x8 x9 x10 x11 x12 : List UInt8) (R : List UInt8 × Int) : Nat → Value → World → Prop
  | 0, v, _ => v = .int .i64 (N : Int)
  | 1, v, _ => v = .int .i64 (c.toNat : Int)
  | 2, v, _ => v = .int .u8 (c.toNat : Int)
  | 3, v, w => ∃ g, v = .slice (some ⟨g, 0, none⟩) 1 1 ∧ w.heap[g]? = some (.cells #[.int .u8 (c.toNat : Int)] 5 (0, 0))
  | 4, v, _ => v = .string (bsl x4)
  | 5, v, _ => v = .string (bsl x5)
  | 6, v, _ => v = .string (bsl x6)
  | 7, v, _ => v = .string (bsl l)
  | 8, v, _ => v = .string (bsl x8)
  | 9, v, _ => v = .string (bsl x9)
  | 10, v, _ => v = .string (bsl x10)
  | 11, v, _ => v = .string (bsl x11)
  | 12, v, _ => v = .string (bsl x12)
  | 13, v, _ => v = .tuple #[.string (bsl R.1), .int .i64 R.2]
  | 14, v, _ => v = .tuple #[.string (bsl R.1), .int .i64 R.2]
  | 15, v, _ => v = .string (bsl R.1)
  | 16, v, _ => v = .int .i64 R.2
  | 17, v, _ => v = .string (bsl R.1)
  | 18, v, _ => v = .int .i64 R.2
  | _, _, _ => True
theorem mhF.gr {w0 w w' : World} {N : Nat} {c : UInt8} {l x4 x5 x6 x8 x9 x10 x11 x12 : List UInt8} {R : List UInt8 × Int} {j : Nat} {u : Value} (h : mhF w0 N c l x4 x5 x6 x8 x9 x10 x11 x12 R j u w) (hg : Gr w w') : mhF w0 N c l x4 x5 x6 x8 x9 x10 x11 x12 R j u w' := by
  match j, h with
  | 0, h | 1, h | 2, h | 4, h | 5, h | 6, h | 7, h | 8, h | 9, h | 10, h | 11, h | 12, h | 13, h | 14, h | 15, h | 16, h | 17, h | 18, h => exact h
  | 3, h => obtain ⟨g, h1, h2⟩ := h; exact ⟨g, h1, hg.blk h2⟩
  | _ + 19, _ => exact trivial
theorem conv1B {w : World} {g : Nat} {c : UInt8} (h : w.heap[g]? = some (.cells #[.int .u8 (c.toNat : Int)] 5 (0, 0))) : (convert 31 9 (.slice (some ⟨g, 0, none⟩) 1 1)).run Try.prog w = .ok (.string (bsl [c])) w :=
  run_convert_bytes_back w _ _ 5 ⟨g, 0, none⟩ 1 [c] Try.underlying31 Try.underlying5 Try.underlying9 (fun j hj => by
    have : j = 0 := by simp at hj; omega
    subst this
    exact cell_of_row h 0 _ rfl)

set_option maxRecDepth 100000 in
set_option maxHeartbeats 2000000 in
theorem hexes_walk (s : ByteArray) (n : Int) (w : World) (hs : s.size ≤ maxLen) (hm : MaxOk w) :
    Calls Try.prog 4 #[.string s, .int .i64 n] w fun e w' => e = .returned (.bool true) ∧ Gr w w' := by
  obtain ⟨l0, rfl⟩ : ∃ l, s = bsl l := ⟨_, bsl_of s⟩
  rw [bsl_size] at hs
  have hsh := fun w => short_any l0 200 w (by omega) hs
  simp only [Int.cast_ofNat_Int] at hsh
  obtain ⟨l, hl⟩ : ∃ r, r = l0.take 200 := ⟨_, rfl⟩
  have hll : l.length ≤ 200 := by rw [hl, List.length_take]; omega
  rw [← hl] at hsh
  obtain ⟨N, hN⟩ : ∃ N : Nat, N = (max 1 (min n 9)).toNat := ⟨_, rfl⟩
  have hN1 : 1 ≤ N ∧ N ≤ 9 := by omega
  have hNi : max 1 (min n 9) = (N : Int) := by omega
  have hx := fun w => hex_any l w (by omega)
  have hz : ∀ w, Calls Try.prog 11 #[.string ⟨#[122]⟩] w fun e w' => e = .returned (.string (bsl (hexB [122]))) ∧ Gr w w' := fun w => hex_any [122] w (by simp)
  have hd1 := fun w (h : MaxOk w) => decode_any (hexB l) (l.length : Int) w (by rw [hexB_len]; omega) (by omega) h
  have e1 : decR (hexB l) (l.length : Int).toNat [] = (l, 0) := by rw [dec_hex, if_pos (by simp)]; rfl
  rw [e1] at hd1
  have hd2 := fun w (h : MaxOk w) => decode_any (hexB l) ((l.length : Int) - 1) w (by rw [hexB_len]; omega) (by omega) h
  have e2 : 0 < l.length → (decR (hexB l) ((l.length : Int) - 1).toNat []).2 = 5 := by
    intro h
    rw [dec_hex, if_neg (by
      rintro (h1 | h1)
      · simp at h1; omega
      · subst h1; simp at h)]
  obtain ⟨⟨r1, r2⟩, hr⟩ : ∃ r, r = decR (hexB l) ((l.length : Int) - 1).toNat [] := ⟨_, rfl⟩
  rw [← hr] at hd2 e2
  obtain ⟨c, hc⟩ : ∃ c, c = UInt8.ofNat (48 + N) := ⟨_, rfl⟩
  have hcn : (c.toNat : Int) = 48 + (N : Int) := by rw [hc, UInt8.toNat_ofNat']; omega
  have hmul : N * l.length ≤ 9 * 200 := Nat.mul_le_mul hN1.2 hll
  have hd3 := fun w (h : MaxOk w) => decode_any ([33, c, 59] ++ hexB l ++ [59] ++ hexB [122]) 2000 w (by simp [hexB_len]; omega) (by decide) h
  have e3 : decR ([33, c, 59] ++ hexB l ++ [59] ++ hexB [122]) (2000 : Int).toNat [] = (repR N l ++ [122], 0) := by
    have := dec_rep N l (hexB [122]) 2000 [] hN1.1 hN1.2 (by simp; omega)
    rw [← hc] at this
    have h2 := dec_hex [122] 2000 (repR N l)
    rw [if_pos (by left; rw [repR_len]; simp; omega)] at h2
    rw [List.nil_append, h2] at this
    rw [← this]
    simp
  rw [e3] at hd3
  have hsl := bsl_size l
  have hsli : ((bsl l).size : Int) = (l.length : Int) := by rw [hsl]
  have hnoS : ∀ a b : List UInt8, a.length + b.length ≤ 100000 → ¬ 9223372036854775807 < (bsl a).size + (bsl b).size := by
    intro a b h; rw [bsl_size, bsl_size]; omega
  obtain ⟨x4, hx4⟩ : ∃ x, x = [c] := ⟨_, rfl⟩
  obtain ⟨x5, hx5⟩ : ∃ x, x = [33] ++ x4 := ⟨_, rfl⟩
  obtain ⟨x6, hx6⟩ : ∃ x, x = x5 ++ [59] := ⟨_, rfl⟩
  obtain ⟨x8, hx8⟩ : ∃ x, x = hexB l := ⟨_, rfl⟩
  obtain ⟨x9, hx9⟩ : ∃ x, x = x6 ++ x8 := ⟨_, rfl⟩
  obtain ⟨x10, hx10⟩ : ∃ x, x = x9 ++ [59] := ⟨_, rfl⟩
  obtain ⟨x11, hx11⟩ : ∃ x, x = hexB [122] := ⟨_, rfl⟩
  obtain ⟨x12, hx12⟩ : ∃ x, x = x10 ++ x11 := ⟨_, rfl⟩
  have l4 : x4.length = 1 := by rw [hx4]; rfl
  have l5 : x5.length = 2 := by rw [hx5, List.length_append, l4]; rfl
  have l6 : x6.length = 3 := by rw [hx6, List.length_append, l5]; rfl
  have l8 : x8.length ≤ 400 := by rw [hx8, hexB_len]; omega
  have l9 : x9.length ≤ 403 := by rw [hx9, List.length_append]; omega
  have l10 : x10.length ≤ 404 := by rw [hx10, List.length_append]; simp; omega
  have l11 : x11.length = 2 := by rw [hx11]; rfl
  have HA5 : Hid (((⟨#[33]⟩ : ByteArray) ++ bsl x4 = bsl x5) ∧ ¬ 9223372036854775807 < 1 + (bsl x4).size) := Lib.hid ⟨by rw [hx5]; exact bsl_app [33] x4, by rw [bsl_size]; omega⟩
  have HA6 : Hid ((bsl x5 ++ (⟨#[59]⟩ : ByteArray) = bsl x6) ∧ ¬ 9223372036854775807 < (bsl x5).size + 1) := Lib.hid ⟨by rw [hx6]; exact bsl_app x5 [59], by rw [bsl_size]; omega⟩
  have HA9 : Hid ((bsl x6 ++ bsl x8 = bsl x9) ∧ ¬ 9223372036854775807 < (bsl x6).size + (bsl x8).size) := Lib.hid ⟨by rw [hx9]; exact bsl_app x6 x8, hnoS x6 x8 (by omega)⟩
  have HA10 : Hid ((bsl x9 ++ (⟨#[59]⟩ : ByteArray) = bsl x10) ∧ ¬ 9223372036854775807 < (bsl x9).size + 1) := Lib.hid ⟨by rw [hx10]; exact bsl_app x9 [59], by rw [bsl_size]; omega⟩
  have HA12 : Hid ((bsl x10 ++ bsl x11 = bsl x12) ∧ ¬ 9223372036854775807 < (bsl x10).size + (bsl x11).size) := Lib.hid ⟨by rw [hx12]; exact bsl_app x10 x11, hnoS x10 x11 (by omega)⟩
  have hx12' : [33, c, 59] ++ hexB l ++ [59] ++ hexB [122] = x12 := by rw [hx12, hx11, hx10, hx9, hx8, hx6, hx5, hx4]; rfl
  rw [hx12'] at hd3
  rw [← hx8] at hx hd1 hd2
  rw [← hx11] at hz
  have hcv4 := fun (w : World) (g : Nat) (h : w.heap[g]? = some (.cells #[.int .u8 (c.toNat : Int)] 5 (0, 0))) => conv1B h
  rw [← hx4] at hcv4
  clear hnoS hx4 hx5 hx6 hx9 hx10 hx12 hx12' hx11 l4 l5 l6 l8 l9 l10 l11
  have HX8 := Lib.hid hx8
  clear hx8
  have HC := Lib.hid hc; have HL := Lib.hid hl; have HR := Lib.hid hr; have HN := Lib.hid hN
  have HSL := Lib.hid hsl
  obtain ⟨hN11, hN19⟩ := hN1
  have hw1 : IntKind.i64.wrap (48 + (N : Int)) = 48 + (N : Int) := IntWalk.i64_in _ (by omega)
  have hw2 := u8_small (48 + (N : Int)) (by omega) (by omega)
  rw [← hcn] at hw1 hw2
  have HW1 := Lib.hid hw1; have HW2 := Lib.hid hw2; have HCN := Lib.hid hcn
  have hAll : ∀ w3 : World, Gr w w3 → True := fun _ _ => trivial
  clear hc hl hr hN e1 e3 hAll hw1 hw2 hcn hsl
  have hcase : (l.length = 0 ∧ ¬ (0 : Int) < (l.length : Int)) ∨ ((0 : Int) < (l.length : Int) ∧ r2 = 5) := by
    rcases Nat.eq_zero_or_pos l.length with hl0 | hl0
    · exact .inl ⟨hl0, by omega⟩
    · exact .inr ⟨by omega, e2 hl0⟩
  clear e2
  rcases hcase with ⟨hl0, hl1⟩ | ⟨hl1, rfl⟩
  have HL0 := Lib.hid hl0
  clear hl0
  all_goals
    go_enter Try.func4, Try.ntmps4
    go_wp2_with (first
      | (go_at_call 7; (with_reducible refine (awake20 _ hm).mono ?_); rintro e w1 ⟨rfl, hg1⟩; have hG := hg1; have hM := hm.gr hG)
      | (go_at_call 8; (with_reducible refine (hsh _).mono ?_); rintro e w2 ⟨rfl, rfl⟩)
      | (go_at_call 11; (with_reducible refine (hx _).mono ?_); rintro e w2 ⟨rfl, hg2⟩; have hG := hG.trans hg2; have hM := hm.gr hG)
      | (go_at_call 9; (first | (with_reducible refine (hd1 _ hM).mono ?_) | (with_reducible refine (hd2 _ hM).mono ?_)); rintro e w3 ⟨rfl, hg3⟩; have hG := hG.trans hg3; have hM := hm.gr hG))
    clear hsh hd1 hd2 hg1 hg2 hg3
    refine wp_region_facts3 (mhF w3 N c l x4 x5 x6 x8 x9 x10 x11 x12 (repR N l ++ [122], 0)) (Gr w3) (by kernel_rfl) (by kernel_rfl) (by kernel_rfl) ((Gr.refl _).drew) ?_ ?_
    · refine Steps.cons1 1 rfl rfl ?_ (Steps.cons1 2 rfl rfl ?_ (Steps.cons1 3 rfl rfl ?_ (Steps.cons1 4 rfl rfl ?_ (Steps.cons1 5 rfl rfl ?_ (Steps.cons1 6 rfl rfl ?_ (Steps.cons1 7 rfl rfl ?_ (Steps.cons1 8 rfl rfl ?_ (Steps.cons1 9 rfl rfl ?_ (Steps.cons1 10 rfl rfl ?_ (Steps.cons1 11 rfl rfl ?_ (Steps.cons1 12 rfl rfl ?_ (Steps.cons1 13 rfl rfl ?_ (Steps.cons1 14 rfl rfl ?_ (Steps.cons1 15 rfl rfl ?_ (Steps.cons1 16 rfl rfl ?_ (Steps.cons1 17 rfl rfl ?_ (Steps.cons1 18 rfl rfl ?_ (Steps.cons1 19 rfl rfl ?_ (Steps.nil)))))))))))))))))))
      · (intro ys w' hB hP K hK; simp only [Preds, Region.binds, mhF, forall_const, and_true, true_and] at hP; simp only [fillA]; go_simp; (have h2 := fun v => hK v w' hB); simp only [mhF, forall_eq] at h2; (have h2 := h2 (fun _ _ _ h => h)); simp [fillA, Act.put, hP] at h2; exact h2)
      · (intro ys w' hB hP; simp only [Preds, Region.binds, mhF, forall_const, and_true, true_and] at hP)
        have f0 : ys 0 = _ := hP
        have hw1 := HW1.out
        rw [HCN.out] at hw1
        have hc1 : mhF w3 N c l x4 x5 x6 x8 x9 x10 x11 x12 (repR N l ++ [122], 0) 1 (.int .i64 (48 + (N : Int))) w' := by show _ = _; rw [HCN.out]
        intro K hK
        simp only [fillA]
        go_simp
        have h2 := hK _ w' hB hc1 (fun j u _ h => h)
        simp [fillA, Act.put, f0] at h2
        exact h2
      · (intro ys w' hB hP; simp only [Preds, Region.binds, mhF, forall_const, and_true, true_and] at hP)
        have f1 : ys 1 = _ := hP
        have hw2 := HW2.out
        intro K hK
        simp only [fillA]
        go_simp
        have h2 := hK _ w' hB rfl (fun j u _ h => h)
        simp [fillA, Act.put, f1] at h2
        exact h2
      · (intro ys w' hB hP; simp only [Preds, Region.binds, mhF, forall_const, and_true, true_and] at hP)
        have f2 : ys 2 = _ := hP
        intro K hK
        simp only [fillA]
        go_simp
        have h2 := hK (.slice (some ⟨w'.heap.size, 0, none⟩) 1 1) (w'.alloc (.cells #[.int .u8 (c.toNat : Int)] 5)) (hB.alloc _) ⟨_, rfl, heap_alloc_new _ _⟩ (fun j u _ h => h.gr ((Gr.refl _).alloc _))
        simp [fillA, Act.put, f2] at h2
        exact h2
      · (intro ys w' hB hP; simp only [Preds, Region.binds, mhF, forall_const, and_true, true_and] at hP)
        obtain ⟨g, h7, h8⟩ : ∃ g, ys 3 = .slice (some ⟨g, 0, none⟩) 1 1 ∧ w'.heap[g]? = some (.cells #[.int .u8 (c.toNat : Int)] 5 (0, 0)) := hP
        have hcv := hcv4 w' g h8
        intro K hK
        simp only [fillA]
        go_simp
        have h2 := hK _ w' hB rfl (fun j u _ h => h)
        simp [fillA, Act.put, h7] at h2
        exact h2
      · (intro ys w' hB hP; simp only [Preds, Region.binds, mhF, forall_const, and_true, true_and] at hP)
        have f4 : ys 4 = _ := hP
        have hap := HA5.out.1
        have hno := HA5.out.2
        have hap2 : mhF w3 N c l x4 x5 x6 x8 x9 x10 x11 x12 (repR N l ++ [122], 0) 5 (.string (bsl x5)) w' := rfl
        intro K hK
        simp only [fillA]
        go_simp
        have h2 := hK _ w' hB hap2 (fun j u _ h => h)
        simp [fillA, Act.put, f4] at h2
        exact h2
      · (intro ys w' hB hP; simp only [Preds, Region.binds, mhF, forall_const, and_true, true_and] at hP)
        have f5 : ys 5 = _ := hP
        have hap := HA6.out.1
        have hno := HA6.out.2
        have hap2 : mhF w3 N c l x4 x5 x6 x8 x9 x10 x11 x12 (repR N l ++ [122], 0) 6 (.string (bsl x6)) w' := rfl
        intro K hK
        simp only [fillA]
        go_simp
        have h2 := hK _ w' hB hap2 (fun j u _ h => h)
        simp [fillA, Act.put, f5] at h2
        exact h2
      · (intro ys w' hB hP K hK; simp only [Preds, Region.binds, mhF, forall_const, and_true, true_and] at hP; simp only [fillA]; go_simp; (have h2 := fun v => hK v w' hB); simp only [mhF, forall_eq] at h2; (have h2 := h2 (fun _ _ _ h => h)); simp [fillA, Act.put, hP] at h2; exact h2)
      · (intro ys w' hB hP; simp only [Preds, Region.binds, mhF, forall_const, and_true, true_and] at hP)
        have f7 : ys 7 = _ := hP
        intro K hK
        simp only [fillA]
        go_simp
        refine (hx w').mono ?_
        rintro e w4 ⟨rfl, hg⟩
        have h2 := hK _ w4 (hB.trans hg) rfl (fun j u _ h => h.gr hg)
        simp [fillA, Act.put, f7] at h2
        exact h2
      · (intro ys w' hB hP; simp only [Preds, Region.binds, mhF, forall_const, and_true, true_and] at hP)
        have f6 : ys 6 = _ := hP.1
        have f8 : ys 8 = _ := hP.2
        have hap := HA9.out.1
        have hno := HA9.out.2
        have hap2 : mhF w3 N c l x4 x5 x6 x8 x9 x10 x11 x12 (repR N l ++ [122], 0) 9 (.string (bsl x9)) w' := rfl
        intro K hK
        simp only [fillA]
        go_simp
        have h2 := hK _ w' hB hap2 (fun j u _ h => h)
        simp [fillA, Act.put, f6, f8] at h2
        exact h2
      · (intro ys w' hB hP; simp only [Preds, Region.binds, mhF, forall_const, and_true, true_and] at hP)
        have f9 : ys 9 = _ := hP
        have hap := HA10.out.1
        have hno := HA10.out.2
        have hap2 : mhF w3 N c l x4 x5 x6 x8 x9 x10 x11 x12 (repR N l ++ [122], 0) 10 (.string (bsl x10)) w' := rfl
        intro K hK
        simp only [fillA]
        go_simp
        have h2 := hK _ w' hB hap2 (fun j u _ h => h)
        simp [fillA, Act.put, f9] at h2
        exact h2
      · (intro ys w' hB hP; simp only [Preds, Region.binds, mhF, forall_const, and_true, true_and] at hP)
        have f8 : ys 8 = _ := hP
        intro K hK
        simp only [fillA]
        go_simp
        refine (hz w').mono ?_
        rintro e w4 ⟨rfl, hg⟩
        have h2 := hK _ w4 (hB.trans hg) rfl (fun j u _ h => h.gr hg)
        simp [fillA, Act.put, f8] at h2
        exact h2
      · (intro ys w' hB hP; simp only [Preds, Region.binds, mhF, forall_const, and_true, true_and] at hP)
        have f10 : ys 10 = _ := hP.1
        have f11 : ys 11 = _ := hP.2
        have hap := HA12.out.1
        have hno := HA12.out.2
        have hap2 : mhF w3 N c l x4 x5 x6 x8 x9 x10 x11 x12 (repR N l ++ [122], 0) 12 (.string (bsl x12)) w' := rfl
        intro K hK
        simp only [fillA]
        go_simp
        have h2 := hK _ w' hB hap2 (fun j u _ h => h)
        simp [fillA, Act.put, f10, f11] at h2
        exact h2
      · (intro ys w' hB hP; simp only [Preds, Region.binds, mhF, forall_const, and_true, true_and] at hP)
        have f12 : ys 12 = _ := hP.1
        have f11 : ys 11 = _ := hP.2
        intro K hK
        simp only [fillA]
        go_simp
        refine (hd3 w' (hm.gr (hG.trans hB))).mono ?_
        rintro e w4 ⟨rfl, hg⟩
        have h2 := hK _ w4 (hB.trans hg) rfl (fun j u _ h => h.gr hg)
        simp [fillA, Act.put, f12, f11] at h2
        exact h2
      · (intro ys w' hB hP K hK; simp only [Preds, Region.binds, mhF, forall_const, and_true, true_and] at hP; simp only [fillA]; go_simp; (have h2 := fun v => hK v w' hB); simp only [mhF, forall_eq] at h2; (have h2 := h2 (fun _ _ _ h => h)); simp [fillA, Act.put, hP] at h2; exact h2)
      · (intro ys w' hB hP K hK; simp only [Preds, Region.binds, mhF, forall_const, and_true, true_and] at hP; simp only [fillA]; go_simp; (have h2 := fun v => hK v w' hB); simp only [mhF, forall_eq] at h2; (have h2 := h2 (fun _ _ _ h => h)); simp [fillA, Act.put, hP] at h2; exact h2)
      · (intro ys w' hB hP K hK; simp only [Preds, Region.binds, mhF, forall_const, and_true, true_and] at hP; simp only [fillA]; go_simp; (have h2 := fun v => hK v w' hB); simp only [mhF, forall_eq] at h2; (have h2 := h2 (fun _ _ _ h => h)); simp [fillA, Act.put, hP] at h2; exact h2)
      · (intro ys w' hB hP K hK; simp only [Preds, Region.binds, mhF, forall_const, and_true, true_and] at hP; simp only [fillA]; go_simp; (have h2 := fun v => hK v w' hB); simp only [mhF, forall_eq] at h2; (have h2 := h2 (fun _ _ _ h => h)); simp [fillA, Act.put, hP] at h2; exact h2)
      · (intro ys w' hB hP K hK; simp only [Preds, Region.binds, mhF, forall_const, and_true, true_and] at hP; simp only [fillA]; go_simp; (have h2 := fun v => hK v w' hB); simp only [mhF, forall_eq] at h2; (have h2 := h2 (fun _ _ _ h => h)); simp [fillA, Act.put, hP] at h2; exact h2)
    · intro ys w' hB hF
      have f17 : ys 17 = _ := hF 17 (by decide)
      have f18 : ys 18 = _ := hF 18 (by decide)
      simp only [fillA, f17, f18]
      clear hF f17 f18 hx hz hd3
      have hgZ := hG.trans hB
      go_wp2_with fail
      go_loop [8, 65] (fun sv iv => ∃ k : Nat, k ≤ N ∧ iv = .int .i64 (k : Int) ∧ sv = .string (bsl (repR k l))) (fun _ iv => N - (intOf iv).toNat)
      case atStart => exact ⟨0, by omega, rfl, rfl⟩
      case round =>
        obtain ⟨k, hk, rfl, rfl⟩ := hrel
        by_cases hkn : k < N
        · have hkn' : (k : Int) < (N : Int) := by omega
          have hap : bsl (repR k l) ++ bsl l = bsl (repR (k + 1) l) := by rw [bsl_app, repR_succ]
          have hno : ¬ 9223372036854775807 < (bsl (repR k l)).size + (bsl l).size := by
            rw [bsl_size, bsl_size, repR_len]
            have : k * l.length ≤ N * l.length := Nat.mul_le_mul_right _ hk
            omega
          go_wp2_with fail
          go_round
          case rel => exact ⟨k + 1, by omega, by go_num, rfl⟩
          case measure => simp [intOf]; omega
        · obtain rfl : k = N := by omega
          have hap : bsl (repR k l) ++ (⟨#[122]⟩ : ByteArray) = bsl (repR k l ++ [122]) := bsl_app (repR k l) [122]
          have hno : ¬ 9223372036854775807 < (bsl (repR k l)).size + (⟨#[122]⟩ : ByteArray).size := by
            rw [bsl_size, repR_len]
            show ¬ 9223372036854775807 < k * l.length + 1
            omega
          go_wp2_with fail
          go_ret
          exact ⟨rfl, hgZ⟩
end Go.Proofs.Ytaeppimldbknhaa
