/-
  opened, walked.
  slices.Clone of a row of ints or of bytes, and slices.Clip, walked.
  slices.Clip and the accumulator's method List, walked.
  The parser is fed, walked.
-/
import Derived.Test.YtfkecgkfcldffaaGreatDoorZPaT
namespace Go.Proofs.YtfkecgkfcldffaaGreatDoor
set_option linter.unusedSimpArgs false
set_option linter.unusedVariables false
set_option linter.unusedSectionVars false
section
open Go.RowKit
variable [Bs]

end
section
open Go.RowKit
variable [Bs]

set_option maxHeartbeats 2000000 in
set_option maxRecDepth 100000 in
theorem clone_ints (B n : Nat) (v : Value) (l : List Int) (w : World) (h : w.ownsRow B 3 1 v n (icells l)) (hn : n ≤ 100000) :
    Calls Tryz.prog 106 #[v] w fun e w' => ∃ v', e = .returned v' ∧ w'.ownsRow w.heap.size 3 1 v' n (icells l) ∧ Gr w w' := by
  obtain ⟨i0, hi0, hz0, hz1, hz2⟩ := info_parts int_info
  have q22 : ∀ (w : World) (a : Option Addr) (n c n' c' : Nat), (binOp .eql 75 (.slice a n c) (.slice none n' c')).run Tryz.prog w = .ok (.bool a.isNone) w := fun w a n c n' c' => Lib.run_eql_slice_nil w _ _ a n c n' c' Tryz.underlying75
  rcases h.2 with ⟨rfl, rfl⟩ | ⟨g, cap, cur, rfl, hg, hh, hnc, hcm, hcs, htk⟩
  · go_enter Tryz.func106, Tryz.ntmps106
    go_wp2_with fail
    go_ret
    have : l = [] := by have := h.1; simp [icells] at this; exact this
    subst this
    exact ⟨_, rfl, World.ownsRow_nil _ _ _ _, .refl _⟩
  · have hcells : ∀ j u, (icells l)[j]? = some u → w.cell? ⟨g, j, none⟩ = some u := by
      intro j u hj
      refine cell_of_row hh j u ?_
      rw [← htk] at hj
      have hlt := (List.getElem?_eq_some_iff.1 hj).1
      rw [List.getElem?_take] at hj
      split at hj
      · simpa using hj
      · cases hj
    have hgl := blk_lt hh
    go_enter Tryz.func106, Tryz.ntmps106
    go_wp2_with (at_builtin; refine wpList_append_own _ rfl _ _ _ rfl w.heap.size 3 i0 (.int .i64 0) 1 8 Tryz.underlying75 hi0 hz0 hz1 hz2 rfl (by decide) _ _ _ rfl (World.ownsRow_made w #[] 0 (Nat.le_refl _) (Nat.zero_le _) rfl) ⟨g, 0, none⟩ n cap (icells l) rfl ?qc1 ?qc2 ?qc3 ?qc4 ?qc5 ?qc6 ?_)
    case qc1 => exact h.1
    case qc2 =>
      intro j u hj
      have e : (⟨g, 0, none⟩ : Addr).add j = ⟨g, j, none⟩ := by rcases j with _ | j <;> simp [Addr.add]
      rw [e]
      exact Lib.cell?_alloc_some _ (hcells j u hj)
    case qc3 => intro u hu; obtain ⟨x, _, rfl⟩ := List.mem_map.1 hu; rfl
    case qc4 => unfold maxLen; omega
    case qc5 => omega
    case qc6 => simp
    intro v' w1 hown hgrow hnil
    go_wp2
    go_ret
    exact ⟨v', rfl, by simpa using hown, ((Below.refl _ w).alloc (Nat.le_refl _) _).grown hgrow (by simp) (by intro k hk; simp [Value.ownBlock] at hk; omega)⟩
end
section
open Go.RowKit
variable [Bs]

variable {lv : List Nat} {w : World} {p o : Nat} {s : PS} {ts : List Tok}

set_option maxHeartbeats 1000000 in
theorem clip_ints (B n : Nat) (v : Value) (xs : List Value) (w : World) (h : w.ownsRow B 3 1 v n xs) :
    Calls Tryz.prog 107 #[v] w fun e w' => ∃ v', e = .returned v' ∧ HasRow w 3 v' n xs ∧ v'.ownBlock = v.ownBlock ∧ w = w' := by
  rcases h.2 with ⟨rfl, rfl⟩ | ⟨g, cap, cur, rfl, hg, hh, hnc, hcm, hcs, htk⟩
  · go_enter Tryz.func107, Tryz.ntmps107
    go_wp2_with fail
    go_ret
    exact ⟨_, rfl, .of_own h, rfl, rfl⟩
  · go_enter Tryz.func107, Tryz.ntmps107
    go_wp2_with fail
    go_ret
    refine ⟨_, rfl, ⟨by simpa using h.1, .inr ⟨g, n, cur, rfl, ⟨_, hh⟩, Nat.le_refl _, by omega, by simpa using htk⟩⟩, rfl, rfl⟩
end
end Go.Proofs.YtfkecgkfcldffaaGreatDoor

namespace Go.Proofs.YtfkecgkfcldffaaGreatDoor
set_option linter.unusedSimpArgs false
set_option linter.unusedVariables false
set_option linter.unusedSectionVars false
open Go.RowKit
variable [Bs]

/-- A slice that reads as a list of cells. -/
def Rd (w : World) (a : Option Addr) (n : Nat) (xs : List Value) : Prop :=
  xs.length = n ∧ (n = 0 ∨ ∃ b off, a = some ⟨b, off, none⟩ ∧ ∀ i u, xs[i]? = some u → w.cell? ⟨b, off + i, none⟩ = some u)
/-- It lies in no block of a list. -/
def Out (lv : List Nat) (a : Option Addr) : Prop := ∀ x, a = some x → x.block ∉ lv
theorem Rd.at_ {w : World} {a : Option Addr} {n : Nat} {xs : List Value} (h : Rd w a n xs) {k : Nat} (hk : k < n) : ∃ b off u, a = some ⟨b, off, none⟩ ∧ xs[k]? = some u ∧ w.cell? ⟨b, off + k, none⟩ = some u ∧ b < w.heap.size := by
  rcases h.2 with h0 | ⟨b, off, rfl, hc⟩
  · omega
  · have hl : k < xs.length := by rw [h.1]; exact hk
    have := hc k _ (List.getElem?_eq_getElem hl)
    exact ⟨b, off, _, rfl, List.getElem?_eq_getElem hl, this, lt_of_cell this⟩
theorem Rd.upd {w w' : World} {lv : List Nat} {a : Option Addr} {n : Nat} {xs : List Value} (h : Rd w a n xs) (hu : Upd lv w w') (ho : Out lv a) : Rd w' a n xs := by
  refine ⟨h.1, ?_⟩
  rcases h.2 with h0 | ⟨b, off, rfl, hc⟩
  · exact .inl h0
  · refine .inr ⟨b, off, rfl, fun i u hi => ?_⟩
    have := hc i u hi
    rw [World.cell?_of_block (w' := w') (w := w) (hu.block b (lt_of_cell this) (ho _ rfl))]
    exact this

/-- Where nothing is said of it the least block is the first. -/
instance zeroB : Bs := ⟨0⟩
end Go.Proofs.YtfkecgkfcldffaaGreatDoor
