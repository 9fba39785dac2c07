/-
  Numbers as a text, in the document's words; an escape and a byte, there.
-/
import Derived.IntWalk
import Derived.Test.YtfkecgkfcldffaaDoorZOrd2
import Derived.Test.YtfkecgkfcldffaaDoorZTkC
namespace Go.Proofs.YtfkecgkfcldffaaDoor
set_option linter.unusedSimpArgs false
set_option linter.unusedVariables false
open Go.RowKit

theorem conv_new (w : World) (l : List Int) (n : Nat) (hn : l.length = n) : (convert 102 9 (.slice (some ⟨w.heap.size, 0, none⟩) n n)).run Tryd.prog (w.alloc (.cells (bcells l).toArray 5)) = .ok (.string (strOf l)) (w.alloc (.cells (bcells l).toArray 5)) := by
  subst hn
  have h : HasRow (w.alloc (.cells (bcells l).toArray 5)) 5 (.slice (some ⟨w.heap.size, 0, none⟩) l.length l.length) l.length (bcells l) :=
    ⟨by simp [bcells], .inr ⟨w.heap.size, l.length, _, rfl, ⟨_, heap_alloc_new _ _⟩, Nat.le_refl _, by simp [bcells], by simp only [bcells]; exact List.take_of_length_le (by simp)⟩⟩
  exact conv_row h
theorem conv1 (w : World) (c : Int) : (convert 102 9 (.slice (some ⟨w.heap.size, 0, none⟩) 1 1)).run Tryd.prog (w.alloc (.cells #[.int .u8 c] 5)) = .ok (.string (strOf [c])) (w.alloc (.cells #[.int .u8 c] 5)) := conv_new w [c] 1 rfl
theorem conv_at1 {w : World} {g : Nat} {c : Int} (h : w.heap[g]? = some (.cells #[.int .u8 c] 5 (0, 0))) : (convert 102 9 (.slice (some ⟨g, 0, none⟩) 1 1)).run Tryd.prog w = .ok (.string (strOf [c])) w :=
  conv_row (l := [c]) ⟨rfl, .inr ⟨g, 1, _, rfl, ⟨_, h⟩, Nat.le_refl _, by simp, by simp [bcells]⟩⟩
theorem strOf_app (a b : List Int) : strOf a ++ strOf b = strOf (a ++ b) := by
  apply ByteArray.ext
  rw [ByteArray.data_append]
  apply Array.ext'
  simp [strOf]

theorem digs_size (n : Nat) (h : n ≤ 1000000) : (strOf (digs n)).size ≤ 7 := by
  have e : (strOf (digs n)).size = (digs n).length := by simp [strOf, ByteArray.size]
  rw [e]
  unfold digs
  rw [List.length_map, Int.toNat_natCast, Lib.decDigits_length]
  have hs : ∀ j, Lib.nDigits j = if j < 10 then 1 else Lib.nDigits (j / 10) + 1 := fun j => by rw [Lib.nDigits]; split <;> rfl
  rw [hs, hs, hs, hs, hs, hs, hs]
  repeat' split
  all_goals omega
def decF (w0 : World) (n : Nat) : Nat → Value → World → Prop
  | 0, v, _ => v = .int .i64 n
  | 1, v, _ => v = .int .i64 ((n : Int) / 10)
  | 2, v, _ => v = .string (strOf (digs ((n : Int) / 10)))
  | 3, v, _ => v = .int .i64 n
  | 4, v, _ => v = .int .i64 ((n : Int) % 10)
  | 5, v, _ => v = .int .i64 (48 + ((n : Int) % 10))
  | 6, v, _ => v = .int .u8 (48 + ((n : Int) % 10))
  | 7, v, w => ∃ g, v = .slice (some ⟨g, 0, none⟩) 1 1 ∧ w.heap[g]? = some (.cells #[.int .u8 (48 + ((n : Int) % 10))] 5 (0, 0))
  | 8, v, _ => v = .string (strOf [48 + ((n : Int) % 10)])
  | 9, v, _ => v = .string (strOf (digs n))
  | 10, v, _ => v = .string (strOf (digs n))
  | _, _, _ => True
theorem decF.gr {w0 w w' : World} {n j : Nat} {u : Value} (h : decF w0 n j u w) (hg : Gr w w') : decF w0 n j u w' := by
  match j, h with
  | 0, h | 1, h | 2, h | 3, h | 4, h | 5, h | 6, h | 8, h | 9, h | 10, h => exact h
  | 7, h => obtain ⟨g, h1, h2⟩ := h; exact ⟨g, h1, hg.blk h2⟩
  | _ + 11, _ => exact trivial

set_option maxRecDepth 100000 in
set_option maxHeartbeats 1000000 in
theorem decimal_walk (n : Nat) (hn : n ≤ 1000000) : ∀ w : World, Calls Tryd.prog 53 #[.int .i64 n] w fun e w' => e = .returned (.string (strOf (digs n))) ∧ Gr w w' := by
  induction n using Nat.strongRecOn with
  | ind n ih =>
    intro w
    by_cases h10 : n < 10
    · have kc := conv1
      have hd := digs_small n h10
      have HD := Lib.hid hd; clear hd ih
      go_enter Tryd.func53, Tryd.ntmps53
      go_wp2_with fail
      go_ret
      exact ⟨by rw [HD.out]; rfl, by (repeat (first | with_reducible exact Gr.refl _ | with_reducible assumption | with_reducible refine Gr.setCell ?_ (by simp; try omega) _ | with_reducible refine Gr.alloc ?_ _ | with_reducible refine Gr.drew ?_ | with_reducible refine Gr.drewN ?_ _ | with_reducible refine Gr.trans ?_ (by assumption)))⟩
    · have e1 : ((n / 10 : Nat) : Int) = (n : Int) / 10 := by omega
      have e2 : ((n % 10 : Nat) : Int) = (n : Int) % 10 := by omega
      have hc := ih (n / 10) (by omega) (by omega)
      have hd := digs_big n h10
      have hs1 := digs_size (n / 10) (by omega)
      rw [e1] at hc hd hs1
      rw [e2] at hd
      clear e1 e2
      have HD := Lib.hid hd; clear hd ih
      have hw1 : IntKind.i64.wrap ((n : Int) / 10) = (n : Int) / 10 := IntWalk.i64_in _ (by omega)
      have hw2 : IntKind.i64.wrap (48 + (n : Int) % 10) = 48 + (n : Int) % 10 := IntWalk.i64_in _ (by omega)
      have hw3 : IntKind.u8.wrap (48 + (n : Int) % 10) = 48 + (n : Int) % 10 := by
        obtain ⟨k, hk, hk2⟩ : ∃ k : Nat, (n : Int) % 10 = k ∧ k < 10 := ⟨n % 10, by omega, by omega⟩
        rw [hk]
        have H : ∀ j : Fin 10, IntKind.u8.wrap (48 + (j.val : Int)) = 48 + (j.val : Int) := by decide +kernel
        exact H ⟨k, hk2⟩
      go_enter Tryd.func53, Tryd.ntmps53
      go_wp2_with fail
      refine wp_region_facts (decF w n) (Gr w) (by kernel_rfl) (by kernel_rfl) (by kernel_rfl) ((Gr.refl _).drew) ?_ ?_
      · refine Steps.cons1 1 rfl rfl ?_ (Steps.cons1 2 rfl rfl ?_ (Steps.cons1 3 rfl rfl ?_ (Steps.cons1 4 rfl rfl ?_ (Steps.cons1 5 rfl rfl ?_ (Steps.cons1 6 rfl rfl ?_ (Steps.cons1 7 rfl rfl ?_ (Steps.cons1 8 rfl rfl ?_ (Steps.cons1 9 rfl rfl ?_ (Steps.cons1 10 rfl rfl ?_ (Steps.cons1 11 rfl rfl ?_ (Steps.nil)))))))))))
        · (intro ys w' hB hP K hK; simp only [Preds, Region.binds, decF, forall_const, and_true, true_and] at hP; simp only [fillA]; go_simp; (have h2 := fun v => hK v w' hB); simp only [decF, forall_eq] at h2; (have h2 := h2 (fun _ _ _ h => h)); simp [fillA, Act.put, hP] at h2; exact h2)
        · (intro ys w' hB hP K hK; simp only [Preds, Region.binds, decF, forall_const, and_true, true_and] at hP; simp only [fillA]; go_simp; (have h2 := fun v => hK v w' hB); simp only [decF, forall_eq] at h2; (have h2 := h2 (fun _ _ _ h => h)); simp [fillA, Act.put, hP] at h2; exact h2)
        · (intro ys w' hB hP; simp only [Preds, Region.binds, decF, forall_const, and_true, true_and] at hP)
          intro K hK
          simp only [fillA]
          go_simp
          refine (hc w').mono ?_
          rintro e w1 ⟨rfl, hg⟩
          have h2 := hK _ w1 (hB.trans hg) rfl (fun j u _ h => h.gr hg)
          simp [fillA, Act.put, hP] at h2
          exact h2
        · (intro ys w' hB hP K hK; simp only [Preds, Region.binds, decF, forall_const, and_true, true_and] at hP; simp only [fillA]; go_simp; (have h2 := fun v => hK v w' hB); simp only [decF, forall_eq] at h2; (have h2 := h2 (fun _ _ _ h => h)); simp [fillA, Act.put, hP] at h2; exact h2)
        · (intro ys w' hB hP K hK; simp only [Preds, Region.binds, decF, forall_const, and_true, true_and] at hP; simp only [fillA]; go_simp; (have h2 := fun v => hK v w' hB); simp only [decF, forall_eq] at h2; (have h2 := h2 (fun _ _ _ h => h)); simp [fillA, Act.put, hP] at h2; exact h2)
        · (intro ys w' hB hP K hK; simp only [Preds, Region.binds, decF, forall_const, and_true, true_and] at hP; simp only [fillA]; go_simp; (have h2 := fun v => hK v w' hB); simp only [decF, forall_eq] at h2; (have h2 := h2 (fun _ _ _ h => h)); simp [fillA, Act.put, hP] at h2; exact h2)
        · (intro ys w' hB hP K hK; simp only [Preds, Region.binds, decF, forall_const, and_true, true_and] at hP; simp only [fillA]; go_simp; (have h2 := fun v => hK v w' hB); simp only [decF, forall_eq] at h2; (have h2 := h2 (fun _ _ _ h => h)); simp [fillA, Act.put, hP] at h2; exact h2)
        · (intro ys w' hB hP; simp only [Preds, Region.binds, decF, forall_const, and_true, true_and] at hP)
          intro K hK
          simp only [fillA]
          go_simp
          have h2 := hK (.slice (some ⟨w'.heap.size, 0, none⟩) 1 1) (w'.alloc (.cells #[.int .u8 (48 + ((n : Int) % 10))] 5)) (hB.alloc _) ⟨_, rfl, heap_alloc_new _ _⟩ (fun j u _ h => h.gr ((Gr.refl _).alloc _))
          simp [fillA, Act.put, hP] at h2
          exact h2
        · (intro ys w' hB hP; simp only [Preds, Region.binds, decF, forall_const, and_true, true_and] at hP)
          obtain ⟨g, h7, h8⟩ : ∃ g, ys 7 = .slice (some ⟨g, 0, none⟩) 1 1 ∧ w'.heap[g]? = some (.cells #[.int .u8 (48 + ((n : Int) % 10))] 5 (0, 0)) := by simpa using hP
          have hcv := conv_at1 h8
          intro K hK
          simp only [fillA]
          go_simp
          have h2 := hK _ w' hB rfl (fun j u _ h => h)
          simp [fillA, Act.put, h7] at h2
          exact h2
        · (intro ys w' hB hP; simp only [Preds, Region.binds, decF, forall_const, and_true, true_and] at hP)
          obtain ⟨h2', h8'⟩ : ys 2 = .string (strOf (digs ((n : Int) / 10))) ∧ ys 8 = .string (strOf [48 + ((n : Int) % 10)]) := by simpa using hP
          have hs2 : (strOf [48 + ((n : Int) % 10)]).size = 1 := rfl
          have hs3 : ¬ 9223372036854775807 < (strOf (digs ((n : Int) / 10))).size + 1 := by omega
          have hdd : decF w n 9 (.string (strOf (digs ((n : Int) / 10)) ++ strOf [48 + ((n : Int) % 10)])) w' := by
            show _ = _
            rw [strOf_app, ← HD.out]
          intro K hK
          simp only [fillA]
          go_simp
          have h2 := hK _ w' hB hdd (fun j u _ h => h)
          simp [fillA, Act.put, h2', h8'] at h2
          exact h2
        · (intro ys w' hB hP K hK; simp only [Preds, Region.binds, decF, forall_const, and_true, true_and] at hP; simp only [fillA]; go_simp; (have h2 := fun v => hK v w' hB); simp only [decF, forall_eq] at h2; (have h2 := h2 (fun _ _ _ h => h)); simp [fillA, Act.put, hP] at h2; exact h2)
      · intro ys w' hB hF
        have f10 : ys 10 = _ := hF 10 (by decide)
        clear hF
        simp only [fillA, f10]
        clear f10
        go_wp2_with fail
        go_ret
        exact ⟨by simp [Act.put], hB⟩

theorem dec_any (y : Int) (h0 : 0 ≤ y) (h1 : y ≤ 65535) (w : World) : Calls Tryd.prog 53 #[.int .i64 y] w fun e w' => e = .returned (.string (strOf (digs y))) ∧ Gr w w' := by
  obtain ⟨k, rfl⟩ : ∃ k : Nat, y = k := ⟨y.toNat, by omega⟩
  exact decimal_walk k (by omega) w
theorem digs_size2 (y : Int) (h0 : 0 ≤ y) (h1 : y ≤ 65535) : (strOf (digs y)).size ≤ 7 := by
  obtain ⟨k, rfl⟩ : ∃ k : Nat, y = k := ⟨y.toNat, by omega⟩
  exact digs_size k (by omega)
theorem fmtGo_len (l : List Int) : (fmtGo l).length ≤ 6 * l.length := by
  have h := congrArg (fun b : ByteArray => b.data.toList.length) (join_fmt l)
  have h2 := fmt_len l
  simp [strOf] at h
  rw [List.map_map] at h2
  omega
end Go.Proofs.YtfkecgkfcldffaaDoor
