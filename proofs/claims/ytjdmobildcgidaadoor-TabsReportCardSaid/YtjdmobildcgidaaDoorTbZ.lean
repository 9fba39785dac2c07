/-
  Tab stops told as a text: by the program, and by the document.
-/
import Derived.Test.YtjdmobildcgidaaDoorTbN
import Derived.Test.YtjdmobildcgidaaDoorTbJ
import Derived.Test.YtjdmobildcgidaaDoorDg
namespace Go.Proofs.YtjdmobildcgidaaDoor
set_option linter.unusedSimpArgs false
set_option linter.unusedVariables false
open Go.RowKit
set_option linter.unusedVariables false

/-- Columns between strokes, counted from 1 on. -/
def repGo : List Nat → List Int
  | [] => []
  | [n] => digs ((n : Int) + 1)
  | n :: l => digs ((n : Int) + 1) ++ 47 :: repGo l
def rstr (n : Nat) : ByteArray := strOf (digs ((n : Int) + 1))
theorem rstr_bytes (n : Nat) : (rstr n).data.toList = Lib.decDigits (n + 1) := by
  unfold rstr digs
  rw [strOf_bytes, show ((n : Int) + 1).toNat = n + 1 by omega]
theorem repGo_snoc (l : List Nat) (x : Nat) : repGo (l ++ [x]) = (if l = [] then [] else repGo l ++ [47]) ++ digs ((x : Int) + 1) := by
  induction l with
  | nil => simp [repGo]
  | cons n l ih =>
    cases l with
    | nil => simp [repGo]
    | cons m l =>
      rw [show (n :: m :: l) ++ [x] = n :: m :: (l ++ [x]) from rfl, show repGo (n :: m :: (l ++ [x])) = digs ((n : Int) + 1) ++ 47 :: repGo ((m :: l) ++ [x]) from rfl, ih]
      simp [repGo]
theorem join_rep (l : List Nat) : strOf (repGo l) = ⟨(Lib.join ((l.map rstr).map (·.data.toList)) [47]).toArray⟩ := by
  suffices h : repGo l = (Lib.join ((l.map rstr).map (·.data.toList)) [47]).map fun b => (b.toNat : Int) by rw [h, strOf_bytes]
  induction l with
  | nil => rfl
  | cons n l ih =>
    cases l with
    | nil => simp [repGo, Lib.join_one, rstr_bytes, digs]
    | cons m l =>
      rw [show repGo (n :: m :: l) = digs ((n : Int) + 1) ++ 47 :: repGo (m :: l) from rfl, ih]
      simp only [List.map_cons, Lib.join, List.intercalate, List.intersperse, List.flatten_cons, List.map_append, rstr_bytes, digs, List.map_nil]
      rw [show ((n : Int) + 1).toNat = n + 1 by omega]
      simp
theorem digs_len (n : Nat) (h : n ≤ 1000000) : (digs n).length ≤ 7 := by
  have := digs_size n h
  simpa [strOf, ByteArray.size] using this
theorem rep_len (l : List Nat) (h : ∀ x ∈ l, x ≤ 512) : (repGo l).length ≤ 8 * l.length := by
  induction l with
  | nil => simp [repGo]
  | cons n l ih =>
    have hn := h n (by simp)
    have hd := digs_len (n + 1) (by omega)
    rw [show ((n + 1 : Nat) : Int) = (n : Int) + 1 by omega] at hd
    have ih := ih fun x hx => h x (by simp [hx])
    cases l with
    | nil => simp only [repGo, List.length_cons, List.length_nil]; omega
    | cons m l =>
      rw [show repGo (n :: m :: l) = digs ((n : Int) + 1) ++ 47 :: repGo (m :: l) from rfl]
      simp only [List.length_append, List.length_cons] at ih ⊢; omega
theorem rep_ne {l : List Nat} (h : l ≠ []) : repGo l ≠ [] := by
  have hd : ∀ n : Nat, digs ((n : Int) + 1) ≠ [] := by
    intro n e
    unfold digs at e
    have := Lib.decDigits_length ((n : Int) + 1).toNat
    rw [List.map_eq_nil_iff.1 e] at this
    rw [Lib.nDigits] at this
    split at this <;> simp at this
  rcases l with _ | ⟨n, _ | ⟨m, l⟩⟩
  · exact absurd rfl h
  · exact hd n
  · simp [repGo]

/-! ### Read back -/
def repB (L : List Nat) : List UInt8 := Lib.join ((L.map rstr).map (·.data.toList)) [47]
theorem repB_str (L : List Nat) : strOf (repGo L) = bsl (repB L) := join_rep L
theorem repB_len (L : List Nat) (h : ∀ x ∈ L, x ≤ 512) : (repB L).length ≤ 8 * L.length := by
  have h1 := congrArg ByteArray.size (repB_str L)
  rw [bsl_size] at h1
  have h2 := rep_len L h
  simp [strOf, ByteArray.size] at h1
  omega
theorem dd_D (n : Nat) : ∀ c ∈ Lib.decDigits n, isD c = true := by
  induction n using Nat.strongRecOn with
  | ind n ih =>
    have hc : ∀ k : Nat, k < 10 → isD (UInt8.ofNat (48 + k)) = true := by
      intro k hk
      have H : ∀ j : Fin 10, isD (UInt8.ofNat (48 + j.val)) = true := by decide +kernel
      exact H ⟨k, hk⟩
    rw [Lib.decDigits]
    split
    · intro c hc'; rw [List.mem_singleton] at hc'; subst hc'; exact hc n (by assumption)
    · intro c hc'
      rcases List.mem_append.1 hc' with h | h
      · exact ih (n / 10) (by omega) c h
      · rw [List.mem_singleton] at h; subst h; exact hc (n % 10) (by omega)
theorem dd_val (n : Nat) (h : n ≤ 1000) : valD (Lib.decDigits n) = n := by
  induction n using Nat.strongRecOn with
  | ind n ih =>
    have hc : ∀ k : Nat, k < 10 → (UInt8.ofNat (48 + k)).toNat = 48 + k := by
      intro k hk; rw [UInt8.toNat_ofNat']; omega
    rw [Lib.decDigits]
    split
    · rename_i hn
      rw [show [UInt8.ofNat (48 + n)] = [] ++ [UInt8.ofNat (48 + n)] from rfl, valD_snoc, hc n hn]
      unfold valD; simp; omega
    · rename_i hn
      rw [valD_snoc, ih (n / 10) (by omega) (by omega), hc (n % 10) (by omega)]
      omega
theorem dd_ne (n : Nat) : (Lib.decDigits n).isEmpty = false := by
  rw [Lib.decDigits]
  split
  · rfl
  · simp
theorem dd_col (n : Nat) (h : n ≤ 1000) : colR (Lib.decDigits n) = some n := by
  unfold colR
  rw [if_pos ⟨dd_ne n, List.all_eq_true.2 (dd_D n)⟩, dd_val n h]
theorem pcs_rep : ∀ (L : List Nat), L ≠ [] → pcs (repB L) = L.map fun n => Lib.decDigits (n + 1)
  | [], h => absurd rfl h
  | [n], _ => by
    have hp := pc_app (Lib.decDigits (n + 1)) [] (fun c hc => isD_ne (dd_D _ c hc))
    unfold repB pcs
    simp only [List.map_cons, List.map_nil, Lib.join_one, rstr_bytes]
    rw [List.append_nil] at hp
    rw [hp]
    simp [pc]
  | n :: m :: l, _ => by
    have ih := pcs_rep (m :: l) (by simp)
    have e : repB (n :: m :: l) = Lib.decDigits (n + 1) ++ 47 :: repB (m :: l) := by
      unfold repB
      simp only [List.map_cons, Lib.join, List.intercalate, List.intersperse, List.flatten_cons, rstr_bytes]
      simp
    have hp := pc_app (Lib.decDigits (n + 1)) (47 :: repB (m :: l)) (fun c hc => isD_ne (dd_D _ c hc))
    rw [pc_yes] at hp
    rw [e]
    unfold pcs at ih ⊢
    rw [hp]
    simp only [List.append_nil, List.map_cons] at ih ⊢
    rw [ih]
theorem rstP_rep : ∀ (L : List Nat) (out : List Bool), (∀ x ∈ L, x ≤ 512) → rstP out (L.map fun n => Lib.decDigits (n + 1)) = some (L.foldl (fun o n => o.set n true) out)
  | [], out, _ => rfl
  | n :: L, out, h => by
    have hn := h n (by simp)
    simp only [List.map_cons, rstP, dd_col (n + 1) (by omega), List.foldl_cons]
    rw [rstP_rep L _ fun x hx => h x (by simp [hx])]
    unfold setP
    rw [if_pos (by omega), Nat.add_sub_cancel]
theorem fold_at : ∀ (L : List Nat) (out : List Bool) (j : Nat), (L.foldl (fun o n => o.set n true) out).getD j false = (out.getD j false || (decide (j ∈ L) && decide (j < out.length)))
  | [], out, j => by simp
  | n :: L, out, j => by
    rw [List.foldl_cons, fold_at L _ j, List.length_set]
    by_cases hj : n = j
    · subst hj
      by_cases hl : n < out.length
      · simp [List.getD, hl]
      · simp [List.getD, hl]
    · have hne : ¬ j = n := fun e => hj e.symm
      simp [List.getD, List.getElem?_set_ne hj, hne]
theorem fold_len : ∀ (L : List Nat) (out : List Bool), (L.foldl (fun o n => o.set n true) out).length = out.length
  | [], out => rfl
  | n :: L, out => by rw [List.foldl_cons, fold_len L, List.length_set]
theorem mem_listF (f : Nat → Bool) (N j : Nat) : j ∈ listF f N ↔ j < N ∧ f j = true := by unfold listF; simp
theorem listF_le (f : Nat → Bool) (N : Nat) : ∀ x ∈ listF f N, x ≤ N := fun x hx => by have := (mem_listF f N x).1 hx; omega
theorem fold_back (l : List Bool) (h : l.length ≤ 500) : (listF (lf l) 512).foldl (fun o n => o.set n true) (List.replicate l.length false) = l := by
  apply List.ext_getElem
  · rw [fold_len, List.length_replicate]
  · intro j h1 h2
    have e := fold_at (listF (lf l) 512) (List.replicate l.length false) j
    rw [List.getD_eq_getElem?_getD, List.getElem?_eq_getElem h1, Option.getD_some] at e
    rw [e]
    have hm := mem_listF (lf l) 512 j
    have hj : lf l j = l[j] := by unfold lf; rw [List.getD_eq_getElem?_getD, List.getElem?_eq_getElem h2, Option.getD_some]
    rw [hj] at hm
    cases hb : l[j] with
    | true =>
      have : j ∈ listF (lf l) 512 := hm.2 ⟨by omega, hb⟩
      simp [this, h2]
    | false =>
      have : ¬ j ∈ listF (lf l) 512 := fun hx => by have := (hm.1 hx).2; rw [hb] at this; cases this
      simp [this, h2, List.getD]
/-- What was told is brought back, whatever stood there. -/
theorem rst_back (l l2 : List Bool) (h : l.length ≤ 500) (h2 : l2.length = l.length) : rstL l2 (repB (listF (lf l) 512)) = l ∧ rstE l2 (repB (listF (lf l) 512)) = 0 := by
  have hO : rstO l2.length (repB (listF (lf l) 512)) = some l := by
    unfold rstO
    rw [h2]
    by_cases hL : listF (lf l) 512 = []
    · have hb := fold_back l h
      rw [hL] at hb ⊢
      rw [if_pos (by decide)]
      exact congrArg some hb
    · have hp := pcs_rep _ hL
      have hne : (repB (listF (lf l) 512)).isEmpty = false := by
        cases hx : repB (listF (lf l) 512) with
        | nil =>
          exfalso
          have := repB_str (listF (lf l) 512)
          rw [hx] at this
          have hr := rep_ne hL
          have h3 := congrArg ByteArray.size this
          simp [strOf, ByteArray.size, bsl] at h3
          exact hr h3
        | cons a b => rfl
      rw [if_neg (by rw [hne]; decide), hp, rstP_rep _ _ (listF_le _ _), fold_back l h]
  unfold rstL rstE
  rw [hO]
  exact ⟨rfl, rfl⟩
end Go.Proofs.YtjdmobildcgidaaDoor
