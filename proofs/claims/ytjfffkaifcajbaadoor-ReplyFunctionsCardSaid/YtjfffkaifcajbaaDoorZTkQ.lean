/-
  Any two tokens that came in: the document's Check, and its Same.
  A token that came in as an argument: what a walk is told of it.
  A token of the program's own, made of one that came in: Own, walked.
-/
import Derived.ChangeOld
import Derived.Deep.Fields
import Derived.Laws.Tables
import Derived.OpenShut
import Derived.ProofKit
import Derived.SizedLaws
import Derived.WideShapes
import Derived.Test.YtjfffkaifcajbaaDoorZTkM
import Derived.Test.YtjfffkaifcajbaaDoorZSrcN
namespace Go.Proofs.YtjfffkaifcajbaaDoor
set_option linter.unusedSimpArgs false
set_option linter.unusedVariables false
open Go.RowKit
set_option linter.unusedVariables false

theorem rcheck_any {w : World} {t : Tok} {a1 a2 : Option Addr} {n1 c1 n2 c2 : Nat} (hr : TRange t) (h : RdTok w t a1 n1 a2 n2) : RChecks w t.kind t.code t.mark (strOf t.inters) (.slice a1 n1 c1) (.slice a2 n2 c2) (checkR t) := by
  obtain ⟨k, c, m, ps, l, d⟩ := t
  have hpl : ps.length = n1 := h.plen
  have hdl : d.length = n2 := h.dlen
  unfold checkR
  simp only
  by_cases hk : k < 1 ∨ 9 < k
  · rw [if_pos hk]; exact rcheck_kind hk
  · rw [if_neg hk]
    have hsz : (strOf l).size = l.length := strOf_size' l
    by_cases hb : 3 < l.length ∨ 30 < n1 ∨ 4096 < n2
    · have hg : greatB ps l d = true := by
        rw [greatB_iff]
        rcases hb with h | h | h
        · exact .inl h
        · exact .inr (.inl (by omega))
        · exact .inr (.inr (.inl (by omega)))
      rw [if_pos hg]
      exact rcheck_long (by omega) (by omega) (by rw [hsz]; exact hb)
    · have hl := rcheck_late (w := w) (k := k) (c := c) (m := m) (ps := ps) (l := l) (d := d) (c1 := c1) (c2 := c2) (by omega) (by omega) hr.inters hr.data (by omega) (by omega) (by omega) h.params h.data
      have e : lateR k c m ps l d = if greatB ps l d = true then 2 else if goodB ⟨k, c, m, ps, l, d⟩ = true then 0 else 3 := by
        unfold lateR
        by_cases ha : ps.all (fun x => decide (0 ≤ x) && decide (x ≤ 65535)) = true
        · have hG : ¬ greatB ps l d = true := by
            rw [greatB_iff]
            rintro (h1 | h1 | h1 | ⟨x, hx, hn⟩)
            · omega
            · omega
            · omega
            · have := List.all_eq_true.1 ha x hx
              simp at this
              exact hn this
          rw [if_pos ha]
          simp [hG]
        · have hG : greatB ps l d = true := by
            rw [greatB_iff]
            refine .inr (.inr (.inr ?_))
            apply Classical.byContradiction
            intro hn
            refine ha (List.all_eq_true.2 fun x hx => ?_)
            have : 0 ≤ x ∧ x ≤ 65535 := Classical.byContradiction fun hh => hn ⟨x, hx, hh⟩
            simp [this]
          rw [if_neg ha]
          simp [hG]
      rw [e] at hl
      exact hl

theorem icells_get {l : List Int} {k : Nat} {u : Value} (h : (icells l)[k]? = some u) : ∃ x, l[k]? = some x ∧ u = .int .i64 x := by
  simp only [icells, List.getElem?_map] at h
  rcases hx : l[k]? with _ | x
  · rw [hx] at h; cases h
  · rw [hx] at h; simp at h; exact ⟨x, rfl, h.symm⟩
theorem icells_len (l : List Int) : (icells l).length = l.length := by simp [icells]
end Go.Proofs.YtjfffkaifcajbaaDoor

namespace Go.Proofs.YtjfffkaifcajbaaDoor
set_option linter.unusedSimpArgs false
set_option linter.unusedVariables false
open Go.ChangeShapes Go.WideShapes Go.ChangeAt Go.Deep Go.RowKit
set_option linter.unusedVariables false

/-- A text's bytes as numbers. -/
def nums (s : ByteArray) : List Int := s.data.toList.map fun b => (b.toNat : Int)
theorem nums_str (s : ByteArray) : strOf (nums s) = s := by
  unfold nums
  rw [strOf_bytes]
theorem nums_in (s : ByteArray) : ∀ c ∈ nums s, 0 ≤ c ∧ c < 256 := by
  intro c hc
  obtain ⟨b, _, rfl⟩ := List.mem_map.1 hc
  have := b.toNat_lt
  omega
theorem nums_len (s : ByteArray) : (nums s).length = s.size := by unfold nums; rw [List.length_map, Array.length_toList]; rfl
theorem IsRow.rdI {w : World} {a : Option Addr} {len cap : Nat} {zs : List Int} (h : IsRow .i64 w a len cap zs) : Rd w a len (icells (zs.take len)) ∧ len ≤ cap ∧ cap ≤ maxLen := by
  rcases Nat.eq_zero_or_pos cap with h0 | h0
  · have : len = 0 ∧ len ≤ cap := by
      rcases h with ⟨_, h1, h2, _⟩ | ⟨_, _, h1, _⟩ <;> omega
    have hn0 : len = 0 := by omega
    subst hn0
    exact ⟨⟨by simp [icells], .inl rfl⟩, this.2, by unfold maxLen; omega⟩
  · obtain ⟨b, off, ha, h1, h2, h3, h4, hc, hw⟩ := h.plain h0
    refine ⟨⟨by simp [icells]; omega, .inr ⟨b, off, ha, fun i u hi => ?_⟩⟩, h1, h2⟩
    obtain ⟨x, hx, rfl⟩ := icells_get hi
    have hil : i < len := by
      have := (List.getElem?_eq_some_iff.1 hx).1
      simp at this; omega
    rw [hc i (by omega)]
    rw [List.getElem?_take, if_pos hil] at hx
    simp [List.getD, hx]
end Go.Proofs.YtjfffkaifcajbaaDoor

namespace Go.Proofs.YtjfffkaifcajbaaDoor
set_option linter.unusedSimpArgs false
set_option linter.unusedVariables false
open Go.RowKit
set_option linter.unusedVariables false

theorem intsT : Tryd.prog.underlying 35 = some (.slice 3) := Tryd.underlying35
theorem intI : (Tryd.prog.info? 3).map (fun i => (i.zero, i.size, i.bytes)) = some (some (.int .i64 0), 1, 8) := by kernel_rfl
theorem src_rd {P : Program} {t e : TypeId} (ht : P.underlying t = some (.slice e)) {w : World} {a : Option Addr} {n cap : Nat} {xs : List Value} (h : Rd w a n xs) (h1 : ∀ c ∈ xs, c.oneCell' = true) : Src P 1 t (.slice a n cap) n xs w := by
  have hl := h.1
  cases a with
  | none =>
    rcases h.2 with h0 | ⟨b, off, hb, _⟩
    · subst h0
      have : xs = [] := List.eq_nil_of_length_eq_zero hl
      subst this
      exact src_nil ht cap
    · cases hb
  | some x =>
    refine Src.ofSlice w ht x n cap xs (by omega) (fun j v hv => ?_) h1
    have hj : j < xs.length := (List.getElem?_eq_some_iff.1 hv).1
    rcases h.2 with h0 | ⟨b, off, hb, hc⟩
    · omega
    · injection hb with hb
      subst hb
      have e : (⟨b, off, none⟩ : Addr).add j = ⟨b, off + j, none⟩ := by rcases j with _ | j <;> simp [Addr.add]
      rw [e]
      exact hc j v hv

end Go.Proofs.YtjfffkaifcajbaaDoor
