/-
  Tab stops: a word changed where its order is drawn.
-/
import Derived.Test.YtjdmobildcgidaaDoorTbB
import Derived.Test.YtjdmobildcgidaaDoorOrd4
namespace Go.Proofs.YtjdmobildcgidaaDoor
set_option linter.unusedSimpArgs false
set_option linter.unusedVariables false
open Go.RowKit
set_option linter.unusedVariables false

/-- What the operations that change a word leave. -/
def bwF (p n c q r P2 : Nat) (f g : Nat → Bool) : Nat → Value → World → Prop
  | 0, v, _ => v = .pointer (some ⟨p, 0, none⟩)
  | 1, v, _ => v = .int .i64 (c : Int)
  | 2, v, _ => v = .int .i64 (q : Int)
  | 3, v, _ => v = .pointer (some ⟨p, 0, none⟩)
  | 4, v, _ => v = .pointer (some ⟨p, 1, none⟩)
  | 5, v, _ => v = .pointer (some ⟨p, 1 + q, none⟩)
  | 6, v, _ => v = .int .u64 (wordF f q : Nat)
  | 7, v, _ => v = .int .i64 (c : Int)
  | 8, v, _ => v = .int .i64 (r : Int)
  | 9, v, _ => v = .int .u64 (P2 : Int)
  | 10, v, _ => v = .int .u64 (wordF g q : Nat)
  | 11, v, _ => v = .pointer (some ⟨p, 0, none⟩)
  | 12, v, _ => v = .pointer (some ⟨p, 1, none⟩)
  | 13, v, _ => v = .pointer (some ⟨p, 1 + q, none⟩)
  | 14, _, w => StAt w p n g
  | _, _, _ => True
theorem bwF.keep {p n c q r P2 : Nat} {f g : Nat → Bool} {w w' : World} {j : Nat} {u : Value} (h : bwF p n c q r P2 f g j u w) (hj : j ≠ 14) : bwF p n c q r P2 f g j u w' := by
  match j, h with
  | 0, h | 1, h | 2, h | 3, h | 4, h | 5, h | 6, h | 7, h | 8, h | 9, h | 10, h | 11, h | 12, h | 13, h => exact h
  | 14, _ => exact absurd rfl hj
  | _ + 15, _ => exact trivial
def bwBase (w0 : World) (p n : Nat) (f g : Nat → Bool) (w : World) : Prop := (StAt w p n f ∨ StAt w p n g) ∧ Upd [p] w0 w
def bwG (p n : Nat) (f : Nat → Bool) : Nat → World → Prop
  | 6, w => StAt w p n f
  | _, _ => True
def bwAnc : Nat → List Nat
  | 10 | 14 => [6]
  | _ => []
theorem bwG.off {p n : Nat} {f : Nat → Bool} {j : Nat} {w' : World} (h : ([6] : List Nat).contains j = false) : bwG p n f j w' := by
  by_cases hj : j = 6
  · subst hj; exact absurd h (by decide)
  · unfold bwG
    split
    · exact absurd rfl hj
    · exact trivial
theorem bwBase.cell14 {w0 w : World} {p n : Nat} {f g : Nat → Bool} (h : bwBase w0 p n f g w) {i : Nat} (hi : i < 8) : (∃ v, w.cell? ⟨p, 1 + i, none⟩ = some (.int .u64 v)) ∧ w.frozen? ⟨p, 1 + i, none⟩ = false := by
  rcases h.1 with h | h
  · exact ⟨⟨_, h.cell i hi⟩, by unfold StAt at h; simp [World.frozen?, h]⟩
  · exact ⟨⟨_, h.cell i hi⟩, by unfold StAt at h; simp [World.frozen?, h]⟩
theorem bwBase.setw {w0 w : World} {p n c : Nat} {f : Nat → Bool} {b : Bool} (h : bwBase w0 p n f (upd f c b) w) (h8 : c / 64 < 8) :
    bwBase w0 p n f (upd f c b) (w.setCell ⟨p, 1 + c / 64, none⟩ (.int .u64 (wordF (upd f c b) (c / 64) : Nat))) ∧ StAt (w.setCell ⟨p, 1 + c / 64, none⟩ (.int .u64 (wordF (upd f c b) (c / 64) : Nat))) p n (upd f c b) := by
  have hs : StAt (w.setCell ⟨p, 1 + c / 64, none⟩ (.int .u64 (wordF (upd f c b) (c / 64) : Nat))) p n (upd f c b) := by
    rcases h.1 with h | h
    · exact h.setw c b h8
    · have := h.setw c b h8
      have e : upd (upd f c b) c b = upd f c b := by funext x; unfold upd; split <;> rfl
      rw [e] at this
      exact this
  exact ⟨⟨.inr hs, h.2.setCell (by simp) _⟩, hs⟩

set_option maxRecDepth 100000 in
set_option maxHeartbeats 2000000 in
theorem set_in (p n c : Nat) (f : Nat → Bool) (w : World) (h : StAt w p n f) (hn : n ≤ 500) (hc : c < n) : Calls Tryd.prog 24 #[.pointer (some ⟨p, 0, none⟩), .int .i64 c] w fun e w' => e = .returned (.tuple #[]) ∧ (StAt w' p n (upd f c true) ∧ Upd [p] w w') := by
  have ht := there_any p n f c w h
  have hcc : (c : Int) < (n : Int) := by omega
  simp only [Int.natCast_nonneg, decide_true, hcc, Bool.and_self] at ht
  have h8 : c / 64 < 8 := by omega
  have hor := u64_or_nat (wordF f (c / 64)) (2 ^ (c % 64)) (word_lt _ _) (pow_small _ (by omega))
  rw [← word_set] at hor
  obtain ⟨q, hq⟩ : ∃ q, c / 64 = q := ⟨_, rfl⟩
  obtain ⟨r, hr⟩ : ∃ r, c % 64 = r := ⟨_, rfl⟩
  have hdiv : (c : Int) / 64 = (q : Int) := by omega
  have hmod : (c : Int) % 64 = (r : Int) := by omega
  have hq8 : q < 8 := by omega
  have hr64 : r < 64 := by omega
  obtain ⟨P2, hP2⟩ : ∃ P2 : Nat, 2 ^ r = P2 := ⟨_, rfl⟩
  have hpl := pow_small r hr64
  rw [hr, hq, hP2] at hor
  rw [hP2] at hpl
  have hwq : IntKind.i64.wrap (q : Int) = (q : Int) := IntWalk.i64_in _ (by omega)
  have htm : (c : Int).tmod 64 = (r : Int) := by rw [Int.tmod_eq_emod_of_nonneg (by omega)]; exact hmod
  have hq8i : (q : Int) < 8 := by omega
  have hsh : IntKind.u64.wrap ((2 : Int) ^ r) = (P2 : Int) := by
    rw [show ((2 : Int) ^ r) = ((2 ^ r : Nat) : Int) by simp, hP2, IntKind.wrap_u64]; omega
  have HQ := Lib.hid hq; have HR := Lib.hid hr; have HP2 := Lib.hid hP2
  clear hq hr hP2
  go_enter Tryd.func24, Tryd.ntmps24
  go_wp2_with (go_at_call 34; (with_reducible refine ht.mono ?_); rintro e w1 ⟨rfl, rfl⟩)
  refine wp_region_facts4 (bwF p n c q r P2 f (upd f c true)) (bwBase w p n f (upd f c true)) (bwG p n f) bwAnc (by kernel_rfl) (by kernel_rfl) (by kernel_rfl) (by kernel_rfl) ⟨.inl h, (Upd.refl _ _).drew⟩ ?_ ?_ ?_
  · intro i _
    match i with
    | 6 => exact h
    | 0 | 1 | 2 | 3 | 4 | 5 => exact trivial
    | _ + 7 => exact trivial
  · refine Steps4.cons1 1 rfl rfl ?_ (Steps4.cons1 2 rfl rfl ?_ (Steps4.cons1 3 rfl rfl ?_ (Steps4.cons1 4 rfl rfl ?_ (Steps4.cons1 5 rfl rfl ?_ (Steps4.cons1 6 rfl rfl ?_ (Steps4.cons1 7 rfl rfl ?_ (Steps4.cons1 8 rfl rfl ?_ (Steps4.cons1 9 rfl rfl ?_ (Steps4.cons1 10 rfl rfl ?_ (Steps4.cons1 11 rfl rfl ?_ (Steps4.cons1 12 rfl rfl ?_ (Steps4.cons1 13 rfl rfl ?_ (Steps4.cons1 14 rfl rfl ?_ (Steps4.cons1 15 rfl rfl ?_ (Steps4.nil)))))))))))))))
    · (intro ys w' hB hN hP K hK; simp only [Preds, Region.binds, bwF, forall_const, and_true, true_and] at hP; simp only [fillA]; go_simp; (have h2 := fun v => hK v w' hB); simp only [bwF, forall_eq] at h2; (have h2 := h2 (fun _ _ _ h => h) (fun _ _ h => h)); simp [fillA, Act.put, hP] at h2; exact h2)
    · (intro ys w' hB hN hP K hK; simp only [Preds, Region.binds, bwF, forall_const, and_true, true_and] at hP; simp only [fillA]; go_simp; (have h2 := fun v => hK v w' hB); simp only [bwF, forall_eq] at h2; (have h2 := h2 (fun _ _ _ h => h) (fun _ _ h => h)); simp [fillA, Act.put, hP] at h2; exact h2)
    · (intro ys w' hB hN hP K hK; simp only [Preds, Region.binds, bwF, forall_const, and_true, true_and] at hP; simp only [fillA]; go_simp; (have h2 := fun v => hK v w' hB); simp only [bwF, forall_eq] at h2; (have h2 := h2 (fun _ _ _ h => h) (fun _ _ h => h)); simp [fillA, Act.put, hP] at h2; exact h2)
    · (intro ys w' hB hN hP K hK; simp only [Preds, Region.binds, bwF, forall_const, and_true, true_and] at hP; simp only [fillA]; go_simp; (have h2 := fun v => hK v w' hB); simp only [bwF, forall_eq] at h2; (have h2 := h2 (fun _ _ _ h => h) (fun _ _ h => h)); simp [fillA, Act.put, hP] at h2; exact h2)
    · (intro ys w' hB hN hP K hK; simp only [Preds, Region.binds, bwF, forall_const, and_true, true_and] at hP; simp only [fillA]; go_simp; (have h2 := fun v => hK v w' hB); simp only [bwF, forall_eq] at h2; (have h2 := h2 (fun _ _ _ h => h) (fun _ _ h => h)); simp [fillA, Act.put, hP] at h2; exact h2)
    · (intro ys w' hB hN hP K hK; simp only [Preds, Region.binds, bwF, forall_const, and_true, true_and] at hP; simp only [fillA]; go_simp; (have h2 := fun v => hK v w' hB); simp only [bwF, forall_eq] at h2; (have h2 := h2 (fun _ _ _ h => h) (fun _ _ h => h)); simp [fillA, Act.put, hP] at h2; exact h2)
    · (intro ys w' hB hN hP; simp only [Preds, Region.binds, bwF, forall_const, and_true, true_and] at hP)
      have hN : StAt w' p n f := hN
      have hc6 := hN.cell q hq8
      intro K hK
      simp only [fillA]
      go_simp
      have h2 := hK _ w' hB rfl (fun j u _ h => h) (fun _ _ h => h)
      simp [fillA, Act.put, hP] at h2
      exact h2
    · (intro ys w' hB hN hP K hK; simp only [Preds, Region.binds, bwF, forall_const, and_true, true_and] at hP; simp only [fillA]; go_simp; (have h2 := fun v => hK v w' hB); simp only [bwF, forall_eq] at h2; (have h2 := h2 (fun _ _ _ h => h) (fun _ _ h => h)); simp [fillA, Act.put, hP] at h2; exact h2)
    · (intro ys w' hB hN hP K hK; simp only [Preds, Region.binds, bwF, forall_const, and_true, true_and] at hP; simp only [fillA]; go_simp; (have h2 := fun v => hK v w' hB); simp only [bwF, forall_eq] at h2; (have h2 := h2 (fun _ _ _ h => h) (fun _ _ h => h)); simp [fillA, Act.put, hP] at h2; exact h2)
    · (intro ys w' hB hN hP K hK; simp only [Preds, Region.binds, bwF, forall_const, and_true, true_and] at hP; simp only [fillA]; go_simp; (have h2 := fun v => hK v w' hB); simp only [bwF, forall_eq] at h2; (have h2 := h2 (fun _ _ _ h => h) (fun _ _ h => h)); simp [fillA, Act.put, hP] at h2; exact h2)
    · (intro ys w' hB hN hP K hK; simp only [Preds, Region.binds, bwF, forall_const, and_true, true_and] at hP; simp only [fillA]; go_simp; (have h2 := fun v => hK v w' hB); simp only [bwF, forall_eq] at h2; (have h2 := h2 (fun _ _ _ h => h) (fun _ _ h => h)); simp [fillA, Act.put, hP] at h2; exact h2)
    · (intro ys w' hB hN hP K hK; simp only [Preds, Region.binds, bwF, forall_const, and_true, true_and] at hP; simp only [fillA]; go_simp; (have h2 := fun v => hK v w' hB); simp only [bwF, forall_eq] at h2; (have h2 := h2 (fun _ _ _ h => h) (fun _ _ h => h)); simp [fillA, Act.put, hP] at h2; exact h2)
    · (intro ys w' hB hN hP K hK; simp only [Preds, Region.binds, bwF, forall_const, and_true, true_and] at hP; simp only [fillA]; go_simp; (have h2 := fun v => hK v w' hB); simp only [bwF, forall_eq] at h2; (have h2 := h2 (fun _ _ _ h => h) (fun _ _ h => h)); simp [fillA, Act.put, hP] at h2; exact h2)
    · (intro ys w' hB hN hP K hK; simp only [Preds, Region.binds, bwF, forall_const, and_true, true_and] at hP; simp only [fillA]; go_simp; (have h2 := fun v => hK v w' hB); simp only [bwF, forall_eq] at h2; (have h2 := h2 (fun _ _ _ h => h) (fun _ _ h => h)); simp [fillA, Act.put, hP] at h2; exact h2)
    · (intro ys w' hB hN hP; simp only [Preds, Region.binds, bwF, forall_const, and_true, true_and] at hP)
      have hset := hB.setw h8
      rw [HQ.out] at hset
      obtain ⟨⟨v14, hc14⟩, hf14⟩ := hB.cell14 hq8
      intro K hK
      simp only [fillA]
      go_simp
      have h2 := hK undef _ hset.1 hset.2 (fun j u hj h => h.keep hj) (fun j hj _ => bwG.off hj)
      simp [fillA, Act.put, hP] at h2
      exact h2
  · intro ys w' hB hF
    have f14 := hF 14 (by decide)
    have hst : StAt w' p n (upd f c true) := f14
    have hu := hB.2
    clear hF f14 hB
    simp only [fillA]
    go_wp2_with fail
    go_end0
    exact ⟨rfl, hst, hu⟩
set_option maxRecDepth 100000 in
set_option maxHeartbeats 1000000 in
theorem set_out (p : Nat) (n c : Int) (f : Nat → Bool) (w : World) (h : StAt w p n f) (hc : (decide (0 ≤ c) && decide (c < n)) = false) : Calls Tryd.prog 24 #[.pointer (some ⟨p, 0, none⟩), .int .i64 c] w fun e w' => e = .returned (.tuple #[]) ∧ w = w' := by
  have ht := there_any p n f c w h
  rw [hc] at ht
  clear hc
  go_enter Tryd.func24, Tryd.ntmps24
  go_wp2_with (go_at_call 34; (with_reducible refine ht.mono ?_); rintro e w1 ⟨rfl, rfl⟩)
  go_end0
  exact ⟨rfl, rfl⟩
set_option maxRecDepth 100000 in
set_option maxHeartbeats 2000000 in
theorem clear_in (p n c : Nat) (f : Nat → Bool) (w : World) (h : StAt w p n f) (hn : n ≤ 500) (hc : c < n) : Calls Tryd.prog 29 #[.pointer (some ⟨p, 0, none⟩), .int .i64 c] w fun e w' => e = .returned (.tuple #[]) ∧ (StAt w' p n (upd f c false) ∧ Upd [p] w w') := by
  have ht := there_any p n f c w h
  have hcc : (c : Int) < (n : Int) := by omega
  simp only [Int.natCast_nonneg, decide_true, hcc, Bool.and_self] at ht
  have h8 : c / 64 < 8 := by omega
  have hor := u64_andNot_nat (wordF f (c / 64)) (2 ^ (c % 64)) (word_lt _ _) (pow_small _ (by omega))
  rw [← word_clear] at hor
  obtain ⟨q, hq⟩ : ∃ q, c / 64 = q := ⟨_, rfl⟩
  obtain ⟨r, hr⟩ : ∃ r, c % 64 = r := ⟨_, rfl⟩
  have hdiv : (c : Int) / 64 = (q : Int) := by omega
  have hmod : (c : Int) % 64 = (r : Int) := by omega
  have hq8 : q < 8 := by omega
  have hr64 : r < 64 := by omega
  obtain ⟨P2, hP2⟩ : ∃ P2 : Nat, 2 ^ r = P2 := ⟨_, rfl⟩
  have hpl := pow_small r hr64
  rw [hr, hq, hP2] at hor
  rw [hP2] at hpl
  have hwq : IntKind.i64.wrap (q : Int) = (q : Int) := IntWalk.i64_in _ (by omega)
  have htm : (c : Int).tmod 64 = (r : Int) := by rw [Int.tmod_eq_emod_of_nonneg (by omega)]; exact hmod
  have hq8i : (q : Int) < 8 := by omega
  have hsh : IntKind.u64.wrap ((2 : Int) ^ r) = (P2 : Int) := by
    rw [show ((2 : Int) ^ r) = ((2 ^ r : Nat) : Int) by simp, hP2, IntKind.wrap_u64]; omega
  have HQ := Lib.hid hq; have HR := Lib.hid hr; have HP2 := Lib.hid hP2
  clear hq hr hP2
  go_enter Tryd.func29, Tryd.ntmps29
  go_wp2_with (go_at_call 34; (with_reducible refine ht.mono ?_); rintro e w1 ⟨rfl, rfl⟩)
  refine wp_region_facts4 (bwF p n c q r P2 f (upd f c false)) (bwBase w p n f (upd f c false)) (bwG p n f) bwAnc (by kernel_rfl) (by kernel_rfl) (by kernel_rfl) (by kernel_rfl) ⟨.inl h, (Upd.refl _ _).drew⟩ ?_ ?_ ?_
  · intro i _
    match i with
    | 6 => exact h
    | 0 | 1 | 2 | 3 | 4 | 5 => exact trivial
    | _ + 7 => exact trivial
  · refine Steps4.cons1 1 rfl rfl ?_ (Steps4.cons1 2 rfl rfl ?_ (Steps4.cons1 3 rfl rfl ?_ (Steps4.cons1 4 rfl rfl ?_ (Steps4.cons1 5 rfl rfl ?_ (Steps4.cons1 6 rfl rfl ?_ (Steps4.cons1 7 rfl rfl ?_ (Steps4.cons1 8 rfl rfl ?_ (Steps4.cons1 9 rfl rfl ?_ (Steps4.cons1 10 rfl rfl ?_ (Steps4.cons1 11 rfl rfl ?_ (Steps4.cons1 12 rfl rfl ?_ (Steps4.cons1 13 rfl rfl ?_ (Steps4.cons1 14 rfl rfl ?_ (Steps4.cons1 15 rfl rfl ?_ (Steps4.nil)))))))))))))))
    · (intro ys w' hB hN hP K hK; simp only [Preds, Region.binds, bwF, forall_const, and_true, true_and] at hP; simp only [fillA]; go_simp; (have h2 := fun v => hK v w' hB); simp only [bwF, forall_eq] at h2; (have h2 := h2 (fun _ _ _ h => h) (fun _ _ h => h)); simp [fillA, Act.put, hP] at h2; exact h2)
    · (intro ys w' hB hN hP K hK; simp only [Preds, Region.binds, bwF, forall_const, and_true, true_and] at hP; simp only [fillA]; go_simp; (have h2 := fun v => hK v w' hB); simp only [bwF, forall_eq] at h2; (have h2 := h2 (fun _ _ _ h => h) (fun _ _ h => h)); simp [fillA, Act.put, hP] at h2; exact h2)
    · (intro ys w' hB hN hP K hK; simp only [Preds, Region.binds, bwF, forall_const, and_true, true_and] at hP; simp only [fillA]; go_simp; (have h2 := fun v => hK v w' hB); simp only [bwF, forall_eq] at h2; (have h2 := h2 (fun _ _ _ h => h) (fun _ _ h => h)); simp [fillA, Act.put, hP] at h2; exact h2)
    · (intro ys w' hB hN hP K hK; simp only [Preds, Region.binds, bwF, forall_const, and_true, true_and] at hP; simp only [fillA]; go_simp; (have h2 := fun v => hK v w' hB); simp only [bwF, forall_eq] at h2; (have h2 := h2 (fun _ _ _ h => h) (fun _ _ h => h)); simp [fillA, Act.put, hP] at h2; exact h2)
    · (intro ys w' hB hN hP K hK; simp only [Preds, Region.binds, bwF, forall_const, and_true, true_and] at hP; simp only [fillA]; go_simp; (have h2 := fun v => hK v w' hB); simp only [bwF, forall_eq] at h2; (have h2 := h2 (fun _ _ _ h => h) (fun _ _ h => h)); simp [fillA, Act.put, hP] at h2; exact h2)
    · (intro ys w' hB hN hP K hK; simp only [Preds, Region.binds, bwF, forall_const, and_true, true_and] at hP; simp only [fillA]; go_simp; (have h2 := fun v => hK v w' hB); simp only [bwF, forall_eq] at h2; (have h2 := h2 (fun _ _ _ h => h) (fun _ _ h => h)); simp [fillA, Act.put, hP] at h2; exact h2)
    · (intro ys w' hB hN hP; simp only [Preds, Region.binds, bwF, forall_const, and_true, true_and] at hP)
      have hN : StAt w' p n f := hN
      have hc6 := hN.cell q hq8
      intro K hK
      simp only [fillA]
      go_simp
      have h2 := hK _ w' hB rfl (fun j u _ h => h) (fun _ _ h => h)
      simp [fillA, Act.put, hP] at h2
      exact h2
    · (intro ys w' hB hN hP K hK; simp only [Preds, Region.binds, bwF, forall_const, and_true, true_and] at hP; simp only [fillA]; go_simp; (have h2 := fun v => hK v w' hB); simp only [bwF, forall_eq] at h2; (have h2 := h2 (fun _ _ _ h => h) (fun _ _ h => h)); simp [fillA, Act.put, hP] at h2; exact h2)
    · (intro ys w' hB hN hP K hK; simp only [Preds, Region.binds, bwF, forall_const, and_true, true_and] at hP; simp only [fillA]; go_simp; (have h2 := fun v => hK v w' hB); simp only [bwF, forall_eq] at h2; (have h2 := h2 (fun _ _ _ h => h) (fun _ _ h => h)); simp [fillA, Act.put, hP] at h2; exact h2)
    · (intro ys w' hB hN hP K hK; simp only [Preds, Region.binds, bwF, forall_const, and_true, true_and] at hP; simp only [fillA]; go_simp; (have h2 := fun v => hK v w' hB); simp only [bwF, forall_eq] at h2; (have h2 := h2 (fun _ _ _ h => h) (fun _ _ h => h)); simp [fillA, Act.put, hP] at h2; exact h2)
    · (intro ys w' hB hN hP K hK; simp only [Preds, Region.binds, bwF, forall_const, and_true, true_and] at hP; simp only [fillA]; go_simp; (have h2 := fun v => hK v w' hB); simp only [bwF, forall_eq] at h2; (have h2 := h2 (fun _ _ _ h => h) (fun _ _ h => h)); simp [fillA, Act.put, hP] at h2; exact h2)
    · (intro ys w' hB hN hP K hK; simp only [Preds, Region.binds, bwF, forall_const, and_true, true_and] at hP; simp only [fillA]; go_simp; (have h2 := fun v => hK v w' hB); simp only [bwF, forall_eq] at h2; (have h2 := h2 (fun _ _ _ h => h) (fun _ _ h => h)); simp [fillA, Act.put, hP] at h2; exact h2)
    · (intro ys w' hB hN hP K hK; simp only [Preds, Region.binds, bwF, forall_const, and_true, true_and] at hP; simp only [fillA]; go_simp; (have h2 := fun v => hK v w' hB); simp only [bwF, forall_eq] at h2; (have h2 := h2 (fun _ _ _ h => h) (fun _ _ h => h)); simp [fillA, Act.put, hP] at h2; exact h2)
    · (intro ys w' hB hN hP K hK; simp only [Preds, Region.binds, bwF, forall_const, and_true, true_and] at hP; simp only [fillA]; go_simp; (have h2 := fun v => hK v w' hB); simp only [bwF, forall_eq] at h2; (have h2 := h2 (fun _ _ _ h => h) (fun _ _ h => h)); simp [fillA, Act.put, hP] at h2; exact h2)
    · (intro ys w' hB hN hP; simp only [Preds, Region.binds, bwF, forall_const, and_true, true_and] at hP)
      have hset := hB.setw h8
      rw [HQ.out] at hset
      obtain ⟨⟨v14, hc14⟩, hf14⟩ := hB.cell14 hq8
      intro K hK
      simp only [fillA]
      go_simp
      have h2 := hK undef _ hset.1 hset.2 (fun j u hj h => h.keep hj) (fun j hj _ => bwG.off hj)
      simp [fillA, Act.put, hP] at h2
      exact h2
  · intro ys w' hB hF
    have f14 := hF 14 (by decide)
    have hst : StAt w' p n (upd f c false) := f14
    have hu := hB.2
    clear hF f14 hB
    simp only [fillA]
    go_wp2_with fail
    go_end0
    exact ⟨rfl, hst, hu⟩
set_option maxRecDepth 100000 in
set_option maxHeartbeats 1000000 in
theorem clear_out (p : Nat) (n c : Int) (f : Nat → Bool) (w : World) (h : StAt w p n f) (hc : (decide (0 ≤ c) && decide (c < n)) = false) : Calls Tryd.prog 29 #[.pointer (some ⟨p, 0, none⟩), .int .i64 c] w fun e w' => e = .returned (.tuple #[]) ∧ w = w' := by
  have ht := there_any p n f c w h
  rw [hc] at ht
  clear hc
  go_enter Tryd.func29, Tryd.ntmps29
  go_wp2_with (go_at_call 34; (with_reducible refine ht.mono ?_); rintro e w1 ⟨rfl, rfl⟩)
  go_end0
  exact ⟨rfl, rfl⟩
end Go.Proofs.YtjdmobildcgidaaDoor
