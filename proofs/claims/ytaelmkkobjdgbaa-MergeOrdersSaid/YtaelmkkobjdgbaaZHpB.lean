/-
  Heaps as lists: the plain law of sifting up and down.
  Heaps as lists: the steps of sifting down, as the library takes them.
-/
import Derived.Test.YtaelmkkobjdgbaaZHf
namespace Go.Proofs.Ytaelmkkobjdgbaa
set_option linter.unusedSimpArgs false
set_option linter.unusedVariables false
set_option linter.unusedVariables false

section
variable {α : Type} [Inhabited α]
/-- Two places exchanged. -/
def swapL (q : List α) (i j : Nat) : List α := (q.set i (q.getD j default)).set j (q.getD i default)
theorem swapL_len (q : List α) (i j : Nat) : (swapL q i j).length = q.length := by simp [swapL]
theorem getD_in {q : List α} {i : Nat} (h : i < q.length) : q.getD i default = q[i] := by
  rw [List.getD_eq_getElem?_getD, List.getElem?_eq_getElem h, Option.getD_some]
theorem getD_set_self {q : List α} {i : Nat} {a : α} (h : i < q.length) : (q.set i a).getD i default = a := by
  rw [List.getD_eq_getElem?_getD, List.getElem?_set_self h, Option.getD_some]
theorem getD_set_ne {q : List α} {i k : Nat} {a : α} (h : i ≠ k) : (q.set i a).getD k default = q.getD k default := by
  rw [List.getD_eq_getElem?_getD, List.getElem?_set_ne h, ← List.getD_eq_getElem?_getD]
theorem swapL_i {q : List α} {i j : Nat} (hi : i < q.length) (hj : j < q.length) : (swapL q i j).getD i default = q.getD j default := by
  unfold swapL
  by_cases h : j = i
  · subst h; rw [getD_set_self (by simpa using hi)]
  · rw [getD_set_ne h, getD_set_self hi]
theorem swapL_j {q : List α} {i j : Nat} (hj : j < q.length) : (swapL q i j).getD j default = q.getD i default := by
  unfold swapL
  rw [getD_set_self (by simpa using hj)]
theorem swapL_ne {q : List α} {i j k : Nat} (hi : k ≠ i) (hj : k ≠ j) : (swapL q i j).getD k default = q.getD k default := by
  unfold swapL
  rw [getD_set_ne (Ne.symm hj), getD_set_ne (Ne.symm hi)]
theorem ext_getD {a b : List α} (hl : a.length = b.length) (h : ∀ k, k < a.length → a.getD k default = b.getD k default) : a = b := by
  refine List.ext_getElem hl fun k h1 h2 => ?_
  have := h k h1
  rw [getD_in h1, getD_in h2] at this
  exact this
theorem swap_perm : ∀ {q : List α} {i j : Nat}, i < j → j < q.length → (swapL q i j).Perm q
  | [], _, _, _, h => by simp at h
  | x :: q, 0, j + 1, _, hj => by
    have hj' : j < q.length := by simpa using hj
    have e : swapL (x :: q) 0 (j + 1) = q.getD j default :: q.set j x := by simp [swapL]
    rw [e]
    have h1 : q.Perm (q.getD j default :: q.eraseIdx j) := by
      rw [getD_in hj']
      exact perm_erase (List.getElem?_eq_getElem hj')
    have h2 : (q.set j x).Perm (x :: q.eraseIdx j) := (set_perm hj').symm
    exact ((h2.cons _).trans (List.Perm.swap _ _ _)).trans (h1.symm.cons _)
  | x :: q, i + 1, j + 1, h, hj => by
    have e : swapL (x :: q) (i + 1) (j + 1) = x :: swapL q i j := by simp [swapL]
    rw [e]
    exact (swap_perm (by omega) (by simpa using hj)).cons x
theorem swapL_comm (q : List α) {i j : Nat} (hi : i < q.length) (hj : j < q.length) : swapL q i j = swapL q j i := by
  refine ext_getD (by simp [swapL_len]) fun k hk => ?_
  by_cases h1 : k = i
  · subst h1
    rw [swapL_i hi hj, swapL_j hi]
  · by_cases h2 : k = j
    · subst h2
      rw [swapL_j hj, swapL_i hj hi]
    · rw [swapL_ne h1 h2, swapL_ne h2 h1]
theorem swap_perm' {q : List α} {i j : Nat} (h : i ≠ j) (hi : i < q.length) (hj : j < q.length) : (swapL q i j).Perm q := by
  rcases Nat.lt_or_gt_of_ne h with h | h
  · exact swap_perm h hj
  · rw [swapL_comm q hi hj]; exact swap_perm h hi

variable (lt : α → α → Bool)
/-- No child is before its parent, of those from place lo on, among the first n. -/
def HeapFrom (lo n : Nat) (q : List α) : Prop := ∀ c, 0 < c → c < n → lo ≤ (c - 1) / 2 → lt (q.getD c default) (q.getD ((c - 1) / 2) default) = false
/-- .. but for the one at i, which may be after its children. -/
def HeapBut (lo n i : Nat) (q : List α) : Prop :=
  (∀ c, 0 < c → c < n → lo ≤ (c - 1) / 2 → (c - 1) / 2 ≠ i → lt (q.getD c default) (q.getD ((c - 1) / 2) default) = false) ∧
  (∀ c, 0 < c → c < n → (c - 1) / 2 = i → 0 < i → lo ≤ (i - 1) / 2 → lt (q.getD c default) (q.getD ((i - 1) / 2) default) = false)
/-- .. but for the one at j, which may be before its parent. -/
def HeapUp (n j : Nat) (q : List α) : Prop :=
  (∀ c, 0 < c → c < n → c ≠ j → lt (q.getD c default) (q.getD ((c - 1) / 2) default) = false) ∧
  (∀ c, 0 < c → c < n → (c - 1) / 2 = j → 0 < j → lt (q.getD c default) (q.getD ((j - 1) / 2) default) = false)
/-- What an order must be. -/
structure WeakOrd : Prop where
  asym : ∀ a b, lt a b = true → lt b a = false
  ntrans : ∀ a b c, lt a b = false → lt b c = false → lt a c = false
variable {lt}
theorem up_done {n j : Nat} {q : List α} (h : HeapUp lt n j q) (hj : j = 0 ∨ lt (q.getD j default) (q.getD ((j - 1) / 2) default) = false) : HeapFrom lt 0 n q := by
  intro c h0 h1 _
  by_cases hc : c = j
  · rcases hj with hj | hj
    · omega
    · rw [hc]; exact hj
  · exact h.1 c h0 h1 hc
theorem up_step (W : WeakOrd lt) {n j : Nat} {q : List α} (hn : n ≤ q.length) (hj : j < n) (h0 : 0 < j) (h : HeapUp lt n j q) (hl : lt (q.getD j default) (q.getD ((j - 1) / 2) default) = true) : HeapUp lt n ((j - 1) / 2) (swapL q ((j - 1) / 2) j) := by
  obtain ⟨i, hi⟩ : ∃ i, i = (j - 1) / 2 := ⟨_, rfl⟩
  have hij : i < j := by omega
  rw [← hi] at hl ⊢
  have gi : (swapL q i j).getD i default = q.getD j default := swapL_i (by omega) (by omega)
  have gj : (swapL q i j).getD j default = q.getD i default := swapL_j (by omega)
  refine ⟨fun c hc0 hc1 hne => ?_, fun c hc0 hc1 hp hi0 => ?_⟩
  · by_cases hcj : c = j
    · subst hcj
      rw [gj, ← hi, gi]
      exact W.asym _ _ hl
    · rw [swapL_ne hne hcj]
      by_cases hpi : (c - 1) / 2 = i
      · rw [hpi, gi]
        have h1 := h.1 c hc0 hc1 hcj
        rw [hpi] at h1
        exact W.ntrans _ _ _ h1 (W.asym _ _ hl)
      · by_cases hpj : (c - 1) / 2 = j
        · rw [hpj, gj]
          have := h.2 c hc0 hc1 hpj h0
          rw [← hi] at this
          exact this
        · rw [swapL_ne hpi hpj]
          exact h.1 c hc0 hc1 hcj
  · have hpi : (i - 1) / 2 < i := by omega
    rw [swapL_ne (k := (i - 1) / 2) (by omega) (by omega)]
    have h2 := h.1 i hi0 (by omega) (by omega)
    by_cases hcj : c = j
    · subst hcj
      rw [gj]
      exact h2
    · rw [swapL_ne (by omega) hcj]
      have h1 := h.1 c hc0 hc1 hcj
      rw [hp] at h1
      exact W.ntrans _ _ _ h1 h2
theorem down_done {lo n i : Nat} {q : List α} (h : HeapBut lt lo n i q) (hi : ∀ c, 0 < c → c < n → (c - 1) / 2 = i → lt (q.getD c default) (q.getD i default) = false) : HeapFrom lt lo n q := by
  intro c h0 h1 h2
  by_cases hc : (c - 1) / 2 = i
  · rw [hc]; exact hi c h0 h1 hc
  · exact h.1 c h0 h1 h2 hc
/-- The child that is before no other one goes up. -/
theorem down_step (W : WeakOrd lt) {lo n i j : Nat} {q : List α} (hn : n ≤ q.length) (hlo : lo ≤ i) (hj0 : 0 < j) (hj : j < n) (hp : (j - 1) / 2 = i) (h : HeapBut lt lo n i q) (hl : lt (q.getD j default) (q.getD i default) = true)
    (hmin : ∀ c, 0 < c → c < n → (c - 1) / 2 = i → lt (q.getD c default) (q.getD j default) = false) : HeapBut lt lo n j (swapL q i j) := by
  have hij : i < j := by omega
  have gi : (swapL q i j).getD i default = q.getD j default := swapL_i (by omega) (by omega)
  have gj : (swapL q i j).getD j default = q.getD i default := swapL_j (by omega)
  refine ⟨fun c hc0 hc1 hc2 hne => ?_, fun c hc0 hc1 hcp _ hlo2 => ?_⟩
  · by_cases hci : c = i
    · subst hci
      rw [gi, swapL_ne (k := (c - 1) / 2) (by omega) (by omega)]
      exact h.2 j hj0 hj hp hc0 hc2
    · by_cases hcj : c = j
      · subst hcj
        rw [gj, hp, gi]
        exact W.asym _ _ hl
      · rw [swapL_ne hci hcj]
        by_cases hpi : (c - 1) / 2 = i
        · rw [hpi, gi]
          exact hmin c hc0 hc1 hpi
        · rw [swapL_ne hpi hne]
          exact h.1 c hc0 hc1 hc2 hpi
  · have hcj : c ≠ j := by omega
    have hci : c ≠ i := by omega
    rw [swapL_ne hci hcj, hp, gi]
    have := h.1 c hc0 hc1 (by omega) (by omega)
    rw [hcp] at this
    exact this
/-- The front is before which no other one is. -/
theorem heap_min (W : WeakOrd lt) {n : Nat} {q : List α} (h : HeapFrom lt 0 n q) (hr : ∀ a, lt a a = false) : ∀ k, k < n → lt (q.getD k default) (q.getD 0 default) = false := by
  intro k
  induction k using Nat.strongRecOn with
  | ind k ih =>
    intro hk
    rcases Nat.eq_zero_or_pos k with rfl | h0
    · exact hr _
    · exact W.ntrans _ _ _ (h k h0 hk (Nat.zero_le _)) (ih ((k - 1) / 2) (by omega) (by omega))
end
end Go.Proofs.Ytaelmkkobjdgbaa

namespace Go.Proofs.Ytaelmkkobjdgbaa
set_option linter.unusedSimpArgs false
set_option linter.unusedVariables false
set_option linter.unusedVariables false

section
variable {α : Type} [Inhabited α] {lt : α → α → Bool} {lo n i j : Nat} {q : List α}
/-- The child that goes up. -/
structure Sel (lt : α → α → Bool) (n i j : Nat) (q : List α) : Prop where
  kid : j = 2 * i + 1 ∨ j = 2 * i + 2
  lt_ : j < n
  min : ∀ c, 0 < c → c < n → (c - 1) / 2 = i → lt (q.getD c default) (q.getD j default) = false
theorem sel_one (hr : ∀ a, lt a a = false) (h1 : 2 * i + 1 < n) (h2 : n ≤ 2 * i + 2) : Sel lt n i (2 * i + 1) q :=
  ⟨.inl rfl, h1, fun c h0 hc hp => by rw [show c = 2 * i + 1 by omega]; exact hr _⟩
theorem sel_left (hr : ∀ a, lt a a = false) (h1 : 2 * i + 1 < n) (h : lt (q.getD (2 * i + 2) default) (q.getD (2 * i + 1) default) = false) : Sel lt n i (2 * i + 1) q :=
  ⟨.inl rfl, h1, fun c h0 hc hp => by
    rcases (show c = 2 * i + 1 ∨ c = 2 * i + 2 by omega) with rfl | rfl
    · exact hr _
    · exact h⟩
theorem sel_right (W : WeakOrd lt) (hr : ∀ a, lt a a = false) (h1 : 2 * i + 2 < n) (h : lt (q.getD (2 * i + 2) default) (q.getD (2 * i + 1) default) = true) : Sel lt n i (2 * i + 2) q :=
  ⟨.inr rfl, h1, fun c h0 hc hp => by
    rcases (show c = 2 * i + 1 ∨ c = 2 * i + 2 by omega) with rfl | rfl
    · exact W.asym _ _ h
    · exact hr _⟩
theorem down_end1 (h : HeapBut lt lo n i q) (hj : n ≤ 2 * i + 1) : HeapFrom lt lo n q := down_done h fun c h0 hc hp => by omega
theorem down_end2 (W : WeakOrd lt) (h : HeapBut lt lo n i q) (hs : Sel lt n i j q) (hl : lt (q.getD j default) (q.getD i default) = false) : HeapFrom lt lo n q :=
  down_done h fun c h0 hc hp => W.ntrans _ _ _ (hs.min c h0 hc hp) hl
theorem down_go (W : WeakOrd lt) (hn : n ≤ q.length) (hlo : lo ≤ i) (h : HeapBut lt lo n i q) (hs : Sel lt n i j q) (hl : lt (q.getD j default) (q.getD i default) = true) : HeapBut lt lo n j (swapL q i j) := by
  have := hs.kid; have := hs.lt_
  exact down_step W hn hlo (by omega) hs.lt_ (by omega) h hl hs.min
theorem heap_up (h : HeapFrom lt 0 n q) : HeapUp lt n 0 q := ⟨fun c h0 hc _ => h c h0 hc (Nat.zero_le _), fun c _ _ _ h0 => by omega⟩
theorem heap_but (h : HeapFrom lt 0 n q) (a : α) : HeapBut lt 0 n 0 (q.set 0 a) := by
  refine ⟨fun c h0 hc _ hp => ?_, fun c _ _ _ h0 => by omega⟩
  rw [getD_set_ne (by omega), getD_set_ne (by omega)]
  exact h c h0 hc (Nat.zero_le _)
theorem heap_take {m : Nat} (h : HeapFrom lt lo m q) (hm : m ≤ q.length) : HeapFrom lt lo m (q.take m) := fun c h0 hc hp => by
  have e : ∀ k, k < m → (q.take m).getD k default = q.getD k default := fun k hk => by
    rw [List.getD_eq_getElem?_getD, List.getElem?_take, if_pos hk, ← List.getD_eq_getElem?_getD]
  rw [e c hc, e _ (by omega)]
  exact h c h0 hc hp
theorem heap_app (h : HeapFrom lt 0 n q) (hq : q.length = n) (a : α) : HeapUp lt (n + 1) n (q ++ [a]) := by
  have e : ∀ k, k < n → (q ++ [a]).getD k default = q.getD k default := fun k hk => by
    rw [List.getD_eq_getElem?_getD, List.getElem?_append_left (by omega), ← List.getD_eq_getElem?_getD]
  refine ⟨fun c h0 hc hne => ?_, fun c h0 hc hp hn0 => by omega⟩
  rw [e c (by omega), e _ (by omega)]
  exact h c h0 (by omega) (Nat.zero_le _)
theorem heap_swap0 (h : HeapBut lt 0 (n + 1) 0 q) (hq : q.length = n + 1) : HeapBut lt 0 n 0 (swapL q 0 n) := by
  refine ⟨fun c h0 hc _ hp => ?_, fun c _ _ _ h0 => by omega⟩
  rw [swapL_ne (by omega) (by omega), swapL_ne (by omega) (by omega)]
  exact h.1 c h0 (by omega) (Nat.zero_le _) hp
end
end Go.Proofs.Ytaelmkkobjdgbaa
