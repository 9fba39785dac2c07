/-
  Keys with texts: the plain law of the document's side (its scan of a definition, a key's text, sameness).
-/
import Derived.Test.YtdfohcnejdhkiaaDoorZUdA
namespace Go.Proofs.YtdfohcnejdhkiaaDoor
set_option linter.unusedSimpArgs false
set_option linter.unusedVariables false
set_option linter.unusedVariables false

theorem isDg_ne {c : UInt8} (h : isDg c = true) : c ≠ 47 ∧ c ≠ 59 := by
  constructor <;> (rintro rfl; exact absurd h (by decide))
theorem tw_all (p : UInt8 → Bool) : ∀ q : List UInt8, (q.takeWhile p).all p = true
  | [] => rfl
  | c :: q => by
    rw [List.takeWhile_cons]
    split
    · rename_i h; simp only [List.all_cons, h, Bool.true_and]; exact tw_all p q
    · rfl
theorem dw_head (p : UInt8 → Bool) : ∀ {q r : List UInt8} {c : UInt8}, q.dropWhile p = c :: r → p c = false
  | [], r, c, h => by simp at h
  | x :: q, r, c, h => by
    rw [List.dropWhile_cons] at h
    split at h
    · exact dw_head p h
    · rename_i hx
      injection h with h1 h2
      subst h1
      simpa using hx
/-- What the document's scan of a definition sees. -/
def scanP (q : List UInt8) : Option (Nat × List UInt8) := match q.dropWhile isDg with
  | [] => none
  | c :: r => if c = 47 ∧ isK (valK 1000 (q.takeWhile isDg)) = true then some (valK 1000 (q.takeWhile isDg), r) else none
theorem cutS_bad : ∀ {q a b : List UInt8}, cutS q = some (a, b) → ∀ (d r : List UInt8) (c : UInt8), q = d ++ c :: r → (∀ x ∈ d, x ≠ 47) → c ≠ 47 → c ∈ a
  | [], a, b, h => by simp [cutS] at h
  | x :: q, a, b, h => by
    intro d r c e hd hc
    have h' : (if x = 47 then some (([] : List UInt8), q) else (cutS q).map fun p => (x :: p.1, p.2)) = some (a, b) := h
    split at h'
    · rename_i hx
      rcases d with _ | ⟨y, d⟩
      · simp at e; exact absurd (e.1.symm.trans hx) hc
      · simp at e; exact absurd (e.1.symm.trans hx) (hd y (by simp))
    · obtain ⟨p, hp, he⟩ := Option.map_eq_some_iff.1 h'
      injection he with e1 e2
      rw [← e1]
      rcases d with _ | ⟨y, d⟩
      · simp at e; rw [e.1]; simp
      · simp at e
        exact List.mem_cons_of_mem _ (cutS_bad (q := q) (a := p.1) (b := p.2) hp d r c e.2 (fun z hz => hd z (by simp [hz])) hc)
theorem defP_scan (q : List UInt8) : defP q = scanP q := by
  have hq := List.takeWhile_append_dropWhile (p := isDg) (l := q)
  have ha := tw_all isDg q
  have hne : ∀ c ∈ q.takeWhile isDg, c ≠ 47 := fun c hc => (isDg_ne (List.all_eq_true.1 ha c hc)).1
  unfold scanP
  rcases hr : q.dropWhile isDg with _ | ⟨c, r⟩
  · rw [hr, List.append_nil] at hq
    unfold defP
    rw [cutS_none q fun c hc => hne c (by rw [hq]; exact hc)]
  · rw [hr] at hq
    have hc := dw_head isDg hr
    by_cases h47 : c = 47
    · subst h47
      have e : cutS q = some (q.takeWhile isDg, r) := by
        have := cutS_app (q.takeWhile isDg) r hne
        rw [hq] at this
        exact this
      obtain ⟨k1, k2⟩ := isK_two (q.takeWhile isDg)
      unfold defP
      rw [e]
      simp only [ha, true_and]
      by_cases hk : isK (valK 68 (q.takeWhile isDg)) = true
      · rw [if_pos hk, if_pos (by rw [← k1]; exact hk), k2 hk]
      · rw [if_neg hk, if_neg (by rw [← k1]; exact hk)]
    · simp only [h47, false_and, if_false]
      unfold defP
      rcases hcut : cutS q with _ | ⟨a, b⟩
      · rfl
      · have hm := cutS_bad hcut _ _ _ hq.symm hne h47
        have hf : ¬ a.all isDg = true := fun hh => by have := List.all_eq_true.1 hh c hm; rw [hc] at this; cases this
        simp only [hf, Bool.false_eq_true, false_and, if_false]

/-! ### What may be -/
/-- Only keys have texts. -/
def KInv (L : Txs) : Prop := L.length = 18 ∧ ∀ (i : Nat) (s : List UInt8), L[i]? = some s → s ≠ [] → isK (17 + i) = true
theorem KInv.none : KInv (List.replicate 18 []) := ⟨by simp, fun i s h hs => by
  rw [List.getElem?_replicate] at h
  split at h
  · injection h with h; exact absurd h.symm hs
  · cases h⟩
theorem defP_key {q b : List UInt8} {n : Nat} (h : defP q = some (n, b)) : isK n = true := by
  unfold defP at h
  split at h
  · cases h
  · split at h
    · rename_i hk
      injection h with h
      injection h with h1 h2
      rw [← h1]; exact hk.2
    · cases h
theorem KInv.set {L : Txs} (h : KInv L) {n : Nat} (hn : isK n = true) (t : List UInt8) : KInv (L.set (n - 17) t) := by
  have hb := isK_in hn
  refine ⟨by simp [h.1], fun i s hi hs => ?_⟩
  rw [List.getElem?_set] at hi
  split at hi
  · rename_i e
    rw [← e, show 17 + (n - 17) = n by omega]; exact hn
  · exact h.2 i s hi hs
theorem KInv.def {L L' : Txs} (h : KInv L) {q : List UInt8} (hd : defR L q = some L') : KInv L' := by
  unfold defR at hd
  split at hd
  · injection hd with hd; rw [← hd]; exact h
  · split at hd
    · cases hd
    · rename_i n b hp
      obtain ⟨t, _, rfl⟩ := Option.map_eq_some_iff.1 hd
      exact h.set (defP_key hp) t
theorem KInv.with : ∀ {l : List (List UInt8)} {L L' : Txs}, KInv L → withR L l = some L' → KInv L'
  | [], L, L', h, hd => by injection hd with hd; rw [← hd]; exact h
  | q :: l, L, L', h, hd => by
    unfold withR at hd
    split at hd
    · cases hd
    · rename_i L1 h1
      exact KInv.with (h.def h1) hd
theorem KInv.dfn {L : Txs} {lk clear lock : Bool} {data : List UInt8} (h : KInv L) : KInv (dfnR L lk clear lock data).1 := by
  unfold dfnR
  split
  · exact h
  · rename_i L1 h1
    split
    · exact h
    · split
      · exact h
      · refine KInv.with ?_ h1
        split
        · exact KInv.none
        · exact h
/-- The document's definition. -/
def oneD (l : List (Nat × List UInt8)) (q : List UInt8) : Option (List (Nat × List UInt8)) := if q = [] then some l else match scanP q with
  | none => none
  | some (n, b) => (hexR b).map fun t => putR n t (decide (t = [])) l
theorem one_doc {L : Txs} (h : L.length = 18) (q : List UInt8) : oneD (docL L) q = (defR L q).map docL := by
  unfold oneD defR
  by_cases hq : q = []
  · rw [if_pos hq, if_pos hq]; rfl
  · rw [if_neg hq, if_neg hq, ← defP_scan]
    rcases hp : defP q with _ | ⟨n, b⟩
    · rfl
    · have hk := defP_key hp
      simp only [Option.map_map]
      rcases hexR b with _ | t
      · rfl
      · simp only [Option.map_some, Function.comp_apply, Option.some.injEq]
        exact put_doc t h hk
end Go.Proofs.YtdfohcnejdhkiaaDoor
