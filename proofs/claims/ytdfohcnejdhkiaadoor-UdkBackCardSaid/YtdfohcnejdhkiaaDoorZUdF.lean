/-
  Keys with texts: Split, Cut; the keys with definitions more (with of the program).
-/
import Derived.Test.YtdfohcnejdhkiaaDoorZUdE2
import Derived.Test.YtdfohcnejdhkiaaDoorZMcD
namespace Go.Proofs.YtdfohcnejdhkiaaDoor
set_option linter.unusedSimpArgs false
set_option linter.unusedVariables false
open Go.RowKit
set_option linter.unusedVariables false

/-- Where a library function reads a global. -/
def MaxOk (w : World) : Prop := ∃ m, w.cell? ⟨0, 0, none⟩ = some (.int .i64 m)
theorem MaxOk.gr {w w' : World} (h : MaxOk w) (hg : Gr w w') : MaxOk w' := by
  obtain ⟨m, hm⟩ := h
  exact ⟨m, hg.cellAt hm⟩
theorem split_b (t : List UInt8) : (Lib.splitB ⟨#[59]⟩ 0 (Lib.countB (bsl t) ⟨#[59]⟩) (bsl t)).map (·.data.toList) = sps 59 t := by
  rw [Lib.splitB_data, ← split_sps]
  rfl
theorem split_any (t : List UInt8) (w : World) (hl : t.length ≤ 1000000) (hm : MaxOk w) : Calls Tryd.prog 30 #[.string (bsl t), .string ⟨#[59]⟩] w fun e w' => e = .returned (.slice (some ⟨w.heap.size, 0, none⟩) (sps 59 t).length (sps 59 t).length) ∧ w' = w.alloc (.cells ((sps 59 t).map fun q => Value.string (bsl q)).toArray 9) := by
  obtain ⟨m, hm⟩ := hm
  refine (Tryd.strings_Split (bsl t) ⟨#[59]⟩ m w (by rw [bsl_size]; omega) hm (by decide)).mono ?_
  rintro e w' ⟨rfl, rfl⟩
  have h1 := split_b t
  have h2 := Lib.splitB_all ⟨#[59]⟩ (by decide) 0 _ (bsl t) rfl
  generalize Lib.splitB ⟨#[59]⟩ 0 (Lib.countB (bsl t) ⟨#[59]⟩) (bsl t) = L at h1 h2 ⊢
  rw [← h2, ← h1]
  refine ⟨by simp, ?_⟩
  rw [List.map_map]
  congr 3
theorem cut_ix : ∀ q : List UInt8, match cutS q with
    | none => Lib.index q [47] = -1
    | some p => Lib.index q [47] = (p.1.length : Int) ∧ q = p.1 ++ 47 :: p.2
  | [] => by simp [cutS]; rfl
  | c :: l => by
    have ih := cut_ix l
    by_cases hc : c = 47
    · subst hc
      have hix : Lib.index (47 :: l) [47] = 0 := by unfold Lib.index; simp [List.isPrefixOf]
      show match (if (47 : UInt8) = 47 then some (([] : List UInt8), l) else (cutS l).map fun p => (47 :: p.1, p.2)) with
        | none => Lib.index (47 :: l) [47] = -1
        | some p => Lib.index (47 :: l) [47] = (p.1.length : Int) ∧ 47 :: l = p.1 ++ 47 :: p.2
      rw [if_pos rfl]
      exact ⟨hix, rfl⟩
    · have hp : ([47] : List UInt8).isPrefixOf (c :: l) = false := by simp [List.isPrefixOf]; exact fun h => hc h.symm
      have hix : Lib.index (c :: l) [47] = if Lib.index l [47] == -1 then -1 else Lib.index l [47] + 1 := by rw [Lib.index, hp]; simp
      show match (if c = 47 then some (([] : List UInt8), l) else (cutS l).map fun p => (c :: p.1, p.2)) with
        | none => Lib.index (c :: l) [47] = -1
        | some p => Lib.index (c :: l) [47] = (p.1.length : Int) ∧ c :: l = p.1 ++ 47 :: p.2
      rw [if_neg hc, hix]
      rcases hs : cutS l with _ | p
      · rw [hs] at ih
        simp only [Option.map_none]
        rw [ih]; rfl
      · rw [hs] at ih
        simp only [Option.map_some]
        obtain ⟨h1, h2⟩ := ih
        rw [h1]
        refine ⟨?_, by rw [List.cons_append, ← h2]⟩
        have : ((p.1.length : Int) == -1) = false := by simp
        rw [this]; simp
/-- What Cut hands out. -/
def cutV (q : List UInt8) : List UInt8 × List UInt8 × Bool := match cutS q with
  | none => (q, [], false)
  | some p => (p.1, p.2, true)
theorem cut_v (q : List UInt8) : Lib.cut q [47] = cutV q := by
  have h := cut_ix q
  unfold cutV Lib.cut
  rcases hs : cutS q with _ | p
  · rw [hs] at h
    simp only at h
    rw [h]; rfl
  · rw [hs] at h
    obtain ⟨h1, h2⟩ := h
    rw [h1, if_pos (by omega)]
    simp only [Int.toNat_natCast, List.length_cons, List.length_nil]
    conv => lhs; rw [h2]
    rw [List.take_left]
    congr 2
    rw [← List.drop_drop, List.drop_left]
    rfl
theorem cut_any (q : List UInt8) (w : World) (hl : q.length ≤ 1000000) (hm : MaxOk w) : Calls Tryd.prog 31 #[.string (bsl q), .string ⟨#[47]⟩] w fun e w' => e = .returned (.tuple #[.string (bsl (cutV q).1), .string (bsl (cutV q).2.1), .bool (cutV q).2.2]) ∧ Gr w w' := by
  obtain ⟨m, hm⟩ := hm
  refine (Tryd.strings_Cut (bsl q) ⟨#[47]⟩ m w (by rw [bsl_size]; omega) hm).mono ?_
  rintro e w' ⟨rfl, n, rfl⟩
  rw [bsl_list]
  have h1 := cut_v q
  refine ⟨?_, (Gr.refl w).drewN n⟩
  show Ending.returned (.tuple #[.string (bsl (Lib.cut q [47]).1), .string (bsl (Lib.cut q [47]).2.1), .bool (Lib.cut q [47]).2.2]) = _
  rw [h1]
theorem cutV_len (q : List UInt8) : (cutV q).1.length ≤ q.length ∧ (cutV q).2.1.length ≤ q.length := by
  have h := cut_ix q
  unfold cutV
  rcases hs : cutS q with _ | p
  · simp
  · rw [hs] at h
    have := congrArg List.length h.2
    simp only [List.length_append, List.length_cons] at this
    simp only
    omega
/-- A definition that is none, by what is read of it. -/
theorem keyV_form (q : List UInt8) : ∃ (n : Nat) (b : Bool), keyV q = .tuple #[.int .i64 n, .bool b] ∧ b = (q.all isDg && isK (valK 68 q)) ∧ (b = true → n = valK 68 q) := by
  unfold keyV
  by_cases h : q.all isDg = true
  · rw [if_pos h]
    exact ⟨_, _, rfl, by rw [h, Bool.true_and], fun _ => rfl⟩
  · rw [if_neg h]
    exact ⟨0, false, rfl, by rw [Bool.eq_false_iff.2 h, Bool.false_and], fun h => by cases h⟩
theorem fromR_form (l : List UInt8) : ∃ (t : List UInt8) (e : Int), fromR l = (t, e) ∧ ((e = 0 ∧ hexR l = some t) ∨ (e = 3 ∧ hexR l = none)) := by
  unfold fromR
  rcases h : hexR l with _ | o
  · exact ⟨_, _, rfl, .inr ⟨rfl, rfl⟩⟩
  · exact ⟨_, _, rfl, .inl ⟨rfl, rfl⟩⟩
theorem defR_none {L : Txs} {q : List UInt8} (hq : q ≠ []) {n : Nat} {kb : Bool} {t : List UInt8} {e : Int} (hk : kb = ((cutV q).1.all isDg && isK (valK 68 (cutV q).1))) (ht : (e = 0 ∧ hexR (cutV q).2.1 = some t) ∨ (e = 3 ∧ hexR (cutV q).2.1 = none))
    (h : (cutV q).2.2 = false ∨ kb = false ∨ e ≠ 0) : defR L q = none := by
  unfold defR
  rw [if_neg hq]
  unfold defP
  unfold cutV at hk ht h
  rcases hs : cutS q with _ | p
  · rfl
  · rw [hs] at hk ht h
    simp only at hk ht h ⊢
    split
    · rfl
    · rename_i n b hp
      split at hp
      · rename_i hc
        injection hp with hp
        injection hp with e1 e2
        subst e2
        rcases h with h | h | h
        · cases h
        · rw [hk, hc.1, hc.2] at h; cases h
        · rcases ht with ⟨h1, _⟩ | ⟨_, h2⟩
          · exact absurd h1 h
          · rw [h2]; rfl
      · cases hp
theorem defR_some {L : Txs} {q : List UInt8} (hq : q ≠ []) {n : Nat} {kb : Bool} {t : List UInt8} {e : Int} (hk : kb = ((cutV q).1.all isDg && isK (valK 68 (cutV q).1))) (hn : kb = true → n = valK 68 (cutV q).1) (ht : (e = 0 ∧ hexR (cutV q).2.1 = some t) ∨ (e = 3 ∧ hexR (cutV q).2.1 = none))
    (h : (cutV q).2.2 = true) (h1 : kb = true) (h2 : e = 0) : defR L q = some (L.set (n - 17) t) ∧ isK n = true := by
  unfold defR
  rw [if_neg hq]
  unfold defP
  unfold cutV at hk ht h hn
  rcases hs : cutS q with _ | p
  · rw [hs] at h; cases h
  · rw [hs] at hk ht h hn
    simp only at hk ht h hn ⊢
    have hb := h1
    rw [hk, Bool.and_eq_true] at hb
    rw [if_pos hb]
    simp only
    have ht' : hexR p.2 = some t := by
      rcases ht with ⟨_, h3⟩ | ⟨h3, _⟩
      · exact h3
      · rw [h2] at h3; cases h3
    rw [ht', hn h1]
    exact ⟨rfl, hb.2⟩
end Go.Proofs.YtdfohcnejdhkiaaDoor
