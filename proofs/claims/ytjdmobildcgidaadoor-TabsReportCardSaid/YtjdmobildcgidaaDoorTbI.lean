/-
  Tab stops: Resize and New.
-/
import Derived.Test.YtjdmobildcgidaaDoorTbD
namespace Go.Proofs.YtjdmobildcgidaaDoor
set_option linter.unusedSimpArgs false
set_option linter.unusedVariables false
open Go.RowKit
set_option linter.unusedVariables false

/-- The stops of a list. -/
def lf (l : List Bool) : Nat → Bool := fun j => l.getD j false
def clN (c : Int) : Nat := (max 0 (min c 500)).toNat
def rszB (l : List Bool) (i : Nat) : Bool := if i < l.length then l.getD i false else decide (0 < i) && decide (i % 8 = 0)
def rszL (l : List Bool) (c : Int) : List Bool := (List.range (clN c)).map (rszB l)
theorem rszL_len (l : List Bool) (c : Int) : (rszL l c).length = clN c := by simp [rszL]
theorem clN_le (c : Int) : clN c ≤ 500 := by unfold clN; omega
theorem lf_rsz (l : List Bool) (c : Int) (j : Nat) : lf (rszL l c) j = (decide (j < clN c) && rszB l j) := by
  unfold lf rszL
  by_cases h : j < clN c
  · simp [h]
  · simp [h]
theorem lf_out (l : List Bool) (j : Nat) (h : l.length ≤ j) : lf l j = false := by unfold lf; simp [List.getD, List.getElem?_eq_none h]
def cutF (l : List Bool) (M c : Nat) : Nat → Bool := fun j => lf l j && !(decide (M ≤ j) && decide (j < c))
def addF (l : List Bool) (M c : Nat) : Nat → Bool := fun j => (lf l j && decide (j < M)) || (decide (l.length ≤ j) && decide (j < c) && decide (0 < j) && decide (j % 8 = 0))
theorem cutF_start (l : List Bool) (M : Nat) : cutF l M M = lf l := by
  funext j; unfold cutF
  by_cases h : M ≤ j
  · have : ¬ j < M := by omega
    simp [this]
  · simp [h]
theorem cutF_step (l : List Bool) (M c : Nat) (h : M ≤ c) : upd (cutF l M c) c false = cutF l M (c + 1) := by
  funext j; unfold upd cutF
  by_cases e : j = c
  · subst e; simp [h]
  · have : (j < c + 1) ↔ (j < c) := by omega
    simp [e, this]
theorem cutF_end (l : List Bool) (M c : Nat) (h : l.length ≤ c) : cutF l M c = addF l M l.length := by
  funext j; unfold cutF addF
  by_cases h1 : j < l.length
  · have h2 : j < c := by omega
    have h3 : ¬ l.length ≤ j := by omega
    by_cases h4 : M ≤ j
    · have : ¬ j < M := by omega
      simp [h1, h2, h4, this]
      intro h; omega
    · have : j < M := by omega
      simp [h1, h4, this]
      intro h; omega
  · rw [lf_out l j (by omega)]; simp [h1]
theorem addF_step (l : List Bool) (M c : Nat) (h : l.length ≤ c) (h0 : 0 < c) (h8 : c % 8 = 0) : upd (addF l M c) c true = addF l M (c + 1) := by
  funext j; unfold upd addF
  by_cases e : j = c
  · subst e; simp [h, h0, h8]
  · have : (j < c + 1) ↔ (j < c) := by omega
    simp [e, this]
theorem addF_skip (l : List Bool) (M c : Nat) (h0 : ¬ (0 < c ∧ c % 8 = 0)) : addF l M c = addF l M (c + 1) := by
  funext j; unfold addF
  by_cases e : j = c
  · subst e
    by_cases h1 : 0 < j
    · have : ¬ j % 8 = 0 := fun e => h0 ⟨h1, e⟩
      simp [this]
    · simp [h1]
  · have : (j < c + 1) ↔ (j < c) := by omega
    simp [this]
theorem addF_end (l : List Bool) (n : Int) (c : Nat) (h : clN n ≤ c) (hc : c ≤ clN n ∨ c = l.length) : addF l (clN n) c = lf (rszL l n) := by
  funext j
  rw [lf_rsz]
  unfold addF rszB
  by_cases h1 : j < l.length
  · have h3 : ¬ l.length ≤ j := by omega
    simp [h1, h3, lf, Bool.and_comm]
  · rw [lf_out l j (by omega)]
    have h3 : l.length ≤ j := by omega
    by_cases h4 : j < clN n
    · have h5 : j < c := by omega
      simp [h1, h3, h4, h5]
    · have h5 : ¬ j < c := by omega
      simp [h4, h5]
theorem StAt.setn {w : World} {p : Nat} {n : Int} {f : Nat → Bool} (h : StAt w p n f) (m : Int) : StAt (w.setCell ⟨p, 0, none⟩ (.int .i64 m)) p m f := by
  unfold StAt at h ⊢
  exact blk_set h 0 (.int .i64 m)

set_option maxRecDepth 100000 in
set_option maxHeartbeats 4000000 in
theorem resize_any (p : Nat) (l : List Bool) (n : Int) (w : World) (h : StAt w p (l.length : Nat) (lf l)) (hl : l.length ≤ 500) : Calls Tryd.prog 16 #[.pointer (some ⟨p, 0, none⟩), .int .i64 n] w fun e w' => e = .returned (.tuple #[]) ∧ (StAt w' p ((rszL l n).length : Nat) (lf (rszL l n)) ∧ Upd [p] w w') := by
  have h0 := h.cell0
  have f0 : w.frozen? ⟨p, 0, none⟩ = false := by unfold StAt at h; simp [World.frozen?, h]
  have hcl : max (0 : Int) (min n 500) = (clN n : Nat) := by unfold clN; omega
  have hM5 := clN_le n
  have hend := fun c h1 h2 => addF_end l n c h1 h2
  rw [rszL_len]
  obtain ⟨M, hM⟩ : ∃ M, M = clN n := ⟨_, rfl⟩
  rw [← hM] at hcl hM5 hend ⊢
  obtain ⟨F, hF⟩ : ∃ F, F = lf (rszL l n) := ⟨_, rfl⟩
  rw [← hF] at hend ⊢
  clear hF hM
  have HCL := Lib.hid hcl
  have HEND := Lib.hid hend
  clear hend
  have hsn := h.setn (M : Nat)
  have hu0 : Upd [p] w (w.setCell ⟨p, 0, none⟩ (.int .i64 (M : Nat))) := Upd.of_setCell _ _ _ _
  have hc0 := cutF_start l M
  rw [← hc0] at hsn
  clear hc0
  obtain ⟨N, hN⟩ : ∃ N, N = l.length := ⟨_, rfl⟩
  rw [← hN] at h0 hl
  have HN := Lib.hid hN
  rw [← hN] at h
  clear hN h
  go_enter Tryd.func16, Tryd.ntmps16
  go_wp2_with fail
  have h1 := hsn.cell0
  go_loopw [5] (fun cv wr => ∃ c : Nat, cv = .int .i64 (c : Int) ∧ M ≤ c ∧ (c ≤ N ∨ c = M) ∧ StAt wr p (M : Nat) (cutF l M c) ∧ Upd [p] w wr) (fun cv _ => N - (intOf cv).toNat)
  case atStart => exact ⟨M, rfl, by omega, .inr rfl, hsn, hu0⟩
  case round =>
    obtain ⟨c, rfl, hMc, hcN, hst, hu⟩ := hrel
    by_cases hlt : c < N
    · have h8 : c / 64 < 8 := by omega
      have hci : (c : Int) < (N : Int) := by omega
      have hor := u64_andNot_nat (wordF (cutF l M c) (c / 64)) (2 ^ (c % 64)) (word_lt _ _) (pow_small _ (by omega))
      rw [← word_clear] at hor
      have hg := cutF_step l M c hMc
      obtain ⟨fc, hfc⟩ : ∃ fc, fc = cutF l M c := ⟨_, rfl⟩
      rw [← hfc] at hor hst hg
      have HG := Lib.hid hg
      clear hg hfc
      obtain ⟨q, hq⟩ : ∃ q, c / 64 = q := ⟨_, rfl⟩
      obtain ⟨r, hr⟩ : ∃ r, c % 64 = r := ⟨_, rfl⟩
      have hdiv : (c : Int) / 64 = (q : Int) := by omega
      have hmod : (c : Int) % 64 = (r : Int) := by omega
      have hq8 : q < 8 := by omega
      have hr64 : r < 64 := by omega
      obtain ⟨P2, hP2⟩ : ∃ P2 : Nat, 2 ^ r = P2 := ⟨_, rfl⟩
      have hpl := pow_small r hr64
      rw [hr, hq, hP2] at hor
      rw [hP2] at hpl
      have hwq : IntKind.i64.wrap (q : Int) = (q : Int) := IntWalk.i64_in _ (by omega)
      have htm : (c : Int).tmod 64 = (r : Int) := by rw [Int.tmod_eq_emod_of_nonneg (by omega)]; exact hmod
      have hq8i : (q : Int) < 8 := by omega
      have hsh : IntKind.u64.wrap ((2 : Int) ^ r) = (P2 : Int) := by
        rw [show ((2 : Int) ^ r) = ((2 ^ r : Nat) : Int) by simp, hP2, IntKind.wrap_u64]; omega
      have HQ := Lib.hid hq; have HR := Lib.hid hr; have HP2 := Lib.hid hP2
      clear hq hr hP2
      go_wp2_with fail
      refine wp_region_facts4 (bwF p M c q r P2 fc (upd fc c false)) (bwBase w p M fc (upd fc c false)) (bwG p M fc) bwAnc (by kernel_rfl) (by kernel_rfl) (by kernel_rfl) (by kernel_rfl) ⟨.inl hst, hu.drew⟩ ?_ ?_ ?_
      · intro i _
        match i with
        | 6 => exact hst
        | 0 | 1 | 2 | 3 | 4 | 5 => exact trivial
        | _ + 7 => exact trivial
      · clear hst hu hsn hu0 h1
        refine Steps4.cons1 1 rfl rfl ?_ (Steps4.cons1 2 rfl rfl ?_ (Steps4.cons1 3 rfl rfl ?_ (Steps4.cons1 4 rfl rfl ?_ (Steps4.cons1 5 rfl rfl ?_ (Steps4.cons1 6 rfl rfl ?_ (Steps4.cons1 7 rfl rfl ?_ (Steps4.cons1 8 rfl rfl ?_ (Steps4.cons1 9 rfl rfl ?_ (Steps4.cons1 10 rfl rfl ?_ (Steps4.cons1 11 rfl rfl ?_ (Steps4.cons1 12 rfl rfl ?_ (Steps4.cons1 13 rfl rfl ?_ (Steps4.cons1 14 rfl rfl ?_ (Steps4.cons1 15 rfl rfl ?_ (Steps4.nil)))))))))))))))
        · (intro ys w' hB hN hP K hK; simp only [Preds, Region.binds, bwF, forall_const, and_true, true_and] at hP; simp only [fillA]; go_simp; (have h2 := fun v => hK v w' hB); simp only [bwF, forall_eq] at h2; (have h2 := h2 (fun _ _ _ h => h) (fun _ _ h => h)); simp [fillA, Act.put, hP] at h2; exact h2)
        · (intro ys w' hB hN hP K hK; simp only [Preds, Region.binds, bwF, forall_const, and_true, true_and] at hP; simp only [fillA]; go_simp; (have h2 := fun v => hK v w' hB); simp only [bwF, forall_eq] at h2; (have h2 := h2 (fun _ _ _ h => h) (fun _ _ h => h)); simp [fillA, Act.put, hP] at h2; exact h2)
        · (intro ys w' hB hN hP K hK; simp only [Preds, Region.binds, bwF, forall_const, and_true, true_and] at hP; simp only [fillA]; go_simp; (have h2 := fun v => hK v w' hB); simp only [bwF, forall_eq] at h2; (have h2 := h2 (fun _ _ _ h => h) (fun _ _ h => h)); simp [fillA, Act.put, hP] at h2; exact h2)
        · (intro ys w' hB hN hP K hK; simp only [Preds, Region.binds, bwF, forall_const, and_true, true_and] at hP; simp only [fillA]; go_simp; (have h2 := fun v => hK v w' hB); simp only [bwF, forall_eq] at h2; (have h2 := h2 (fun _ _ _ h => h) (fun _ _ h => h)); simp [fillA, Act.put, hP] at h2; exact h2)
        · (intro ys w' hB hN hP K hK; simp only [Preds, Region.binds, bwF, forall_const, and_true, true_and] at hP; simp only [fillA]; go_simp; (have h2 := fun v => hK v w' hB); simp only [bwF, forall_eq] at h2; (have h2 := h2 (fun _ _ _ h => h) (fun _ _ h => h)); simp [fillA, Act.put, hP] at h2; exact h2)
        · (intro ys w' hB hN hP K hK; simp only [Preds, Region.binds, bwF, forall_const, and_true, true_and] at hP; simp only [fillA]; go_simp; (have h2 := fun v => hK v w' hB); simp only [bwF, forall_eq] at h2; (have h2 := h2 (fun _ _ _ h => h) (fun _ _ h => h)); simp [fillA, Act.put, hP] at h2; exact h2)
        · (intro ys w' hB hN hP; simp only [Preds, Region.binds, bwF, forall_const, and_true, true_and] at hP)
          have hN : StAt w' p M fc := hN
          have hc6 := hN.cell q hq8
          intro K hK
          simp only [fillA]
          go_simp
          have h2 := hK _ w' hB rfl (fun j u _ h => h) (fun _ _ h => h)
          simp [fillA, Act.put, hP] at h2
          exact h2
        · (intro ys w' hB hN hP K hK; simp only [Preds, Region.binds, bwF, forall_const, and_true, true_and] at hP; simp only [fillA]; go_simp; (have h2 := fun v => hK v w' hB); simp only [bwF, forall_eq] at h2; (have h2 := h2 (fun _ _ _ h => h) (fun _ _ h => h)); simp [fillA, Act.put, hP] at h2; exact h2)
        · (intro ys w' hB hN hP K hK; simp only [Preds, Region.binds, bwF, forall_const, and_true, true_and] at hP; simp only [fillA]; go_simp; (have h2 := fun v => hK v w' hB); simp only [bwF, forall_eq] at h2; (have h2 := h2 (fun _ _ _ h => h) (fun _ _ h => h)); simp [fillA, Act.put, hP] at h2; exact h2)
        · (intro ys w' hB hN hP K hK; simp only [Preds, Region.binds, bwF, forall_const, and_true, true_and] at hP; simp only [fillA]; go_simp; (have h2 := fun v => hK v w' hB); simp only [bwF, forall_eq] at h2; (have h2 := h2 (fun _ _ _ h => h) (fun _ _ h => h)); simp [fillA, Act.put, hP] at h2; exact h2)
        · (intro ys w' hB hN hP K hK; simp only [Preds, Region.binds, bwF, forall_const, and_true, true_and] at hP; simp only [fillA]; go_simp; (have h2 := fun v => hK v w' hB); simp only [bwF, forall_eq] at h2; (have h2 := h2 (fun _ _ _ h => h) (fun _ _ h => h)); simp [fillA, Act.put, hP] at h2; exact h2)
        · (intro ys w' hB hN hP K hK; simp only [Preds, Region.binds, bwF, forall_const, and_true, true_and] at hP; simp only [fillA]; go_simp; (have h2 := fun v => hK v w' hB); simp only [bwF, forall_eq] at h2; (have h2 := h2 (fun _ _ _ h => h) (fun _ _ h => h)); simp [fillA, Act.put, hP] at h2; exact h2)
        · (intro ys w' hB hN hP K hK; simp only [Preds, Region.binds, bwF, forall_const, and_true, true_and] at hP; simp only [fillA]; go_simp; (have h2 := fun v => hK v w' hB); simp only [bwF, forall_eq] at h2; (have h2 := h2 (fun _ _ _ h => h) (fun _ _ h => h)); simp [fillA, Act.put, hP] at h2; exact h2)
        · (intro ys w' hB hN hP K hK; simp only [Preds, Region.binds, bwF, forall_const, and_true, true_and] at hP; simp only [fillA]; go_simp; (have h2 := fun v => hK v w' hB); simp only [bwF, forall_eq] at h2; (have h2 := h2 (fun _ _ _ h => h) (fun _ _ h => h)); simp [fillA, Act.put, hP] at h2; exact h2)
        · (intro ys w' hB hN hP; simp only [Preds, Region.binds, bwF, forall_const, and_true, true_and] at hP)
          have hset := hB.setw h8
          rw [HQ.out] at hset
          obtain ⟨⟨v14, hc14⟩, hf14⟩ := hB.cell14 hq8
          intro K hK
          simp only [fillA]
          go_simp
          have h2 := hK undef _ hset.1 hset.2 (fun j u hj h => h.keep hj) (fun j hj _ => bwG.off hj)
          simp [fillA, Act.put, hP] at h2
          exact h2
      · intro ys w' hB hF
        have f14 := hF 14 (by decide)
        have hst2 : StAt w' p M (upd fc c false) := f14
        have hu2 := hB.2
        clear hF f14 hB
        rw [HG.out] at hst2
        simp only [fillA]
        go_wp2_with fail
        go_roundw
        case rel => exact ⟨c + 1, by go_num, by omega, .inl (by omega), hst2, hu2⟩
        case measure => simp [intOf]; omega
    · have hni : ¬ (c : Int) < (N : Int) := by omega
      have he := cutF_end l M c (by have := HN.out; omega)
      rw [he, ← HN.out] at hst
      clear he
      clear hsn hu0 h1
      go_wp2_with fail
      clear hcN hMc hlt hni
      go_loopw [6] (fun cv wr => ∃ c : Nat, cv = .int .i64 (c : Int) ∧ N ≤ c ∧ (c ≤ M ∨ c = N) ∧ StAt wr p (M : Nat) (addF l M c) ∧ Upd [p] w wr) (fun cv _ => M - (intOf cv).toNat)
      case atStart => exact ⟨N, rfl, by omega, .inr rfl, hst, hu⟩
      case round =>
        clear hst hu
        obtain ⟨c, rfl, hNc, hcM, hst, hu⟩ := hrel
        have h1 := hst.cell0
        by_cases hlt : c < M
        · have hci : (c : Int) < (M : Int) := by omega
          obtain ⟨r, hr⟩ : ∃ r, c % 8 = r := ⟨_, rfl⟩
          have hmod : (c : Int) % 8 = (r : Int) := by omega
          have htm : (c : Int).tmod 8 = (r : Int) := by rw [Int.tmod_eq_emod_of_nonneg (by omega)]; exact hmod
          have hLN : l.length ≤ c := by have := HN.out; omega
          by_cases hr0 : r = 0
          · by_cases hc0 : 0 < c
            · have hs := set_in p M c (addF l M c) wr hst hM5 hlt
              rw [addF_step l M c hLN hc0 (by omega)] at hs
              have HR := Lib.hid hr
              clear hr hLN
              subst hr0
              have hc0i : (0 : Int) < (c : Int) := by omega
              have hrb : (((0 : Nat) : Int) == 0) = true := rfl
              go_wp2_with (go_at_call 24; (with_reducible refine hs.mono ?_); rintro e w2 ⟨rfl, hst2, hu2⟩)
              go_roundw
              case rel => exact ⟨c + 1, by go_num, by omega, .inl (by omega), hst2, hu.trans hu2⟩
              case measure => simp [intOf]; omega
            · obtain rfl : c = 0 := by omega
              rw [addF_skip l M 0 (by simp)] at hst
              clear hr hLN htm hmod
              go_wp2_with fail
              go_roundw
              case rel => exact ⟨0 + 1, by go_num, by omega, .inl (by omega), hst, hu⟩
              case measure => simp [intOf]; omega
          · have hrb : ((r : Int) == 0) = false := by simp; omega
            rw [addF_skip l M c (by rw [hr]; exact fun h => hr0 h.2)] at hst
            have HR := Lib.hid hr
            clear hr hLN
            go_wp2_with fail
            go_roundw
            case rel => exact ⟨c + 1, by go_num, by omega, .inl (by omega), hst, hu⟩
            case measure => simp [intOf]; omega
        · have hni : ¬ (c : Int) < (M : Int) := by omega
          rw [HEND.out c (by omega) (by have := HN.out; omega)] at hst
          go_wp2_with fail
          go_end0
          exact ⟨rfl, hst, hu⟩
end Go.Proofs.YtjdmobildcgidaaDoor
