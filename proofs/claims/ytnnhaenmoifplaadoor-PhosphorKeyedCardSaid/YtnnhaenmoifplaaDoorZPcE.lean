/-
  The document's small functions on bytes, walked.
  The document's plain stream, walked.
  The document's header of a sequence, walked.
  The document's header of a sequence, walked: the loop.
-/
import Derived.Test.YtnnhaenmoifplaaDoorZPbK
namespace Go.Proofs.YtnnhaenmoifplaaDoor
set_option linter.unusedSimpArgs false
set_option linter.unusedVariables false
open Go.RowKit

def beginsR (k : Int) : Int := if k = 4 then 91 else if k = 5 then 80 else if k = 6 then 93 else if k = 7 then 88 else if k = 8 then 94 else if k = 9 then 95 else 0
theorem begins_op (k : Nat) (h4 : 4 ≤ k) (h9 : k ≤ 9) (c : Int) : beginsR k = c ↔ opKind c = k := by
  have ho : ∀ n : Nat, opKind c = n → n = 4 ∧ c = 91 ∨ n = 5 ∧ c = 80 ∨ n = 6 ∧ c = 93 ∨ n = 7 ∧ c = 88 ∨ n = 8 ∧ c = 94 ∨ n = 9 ∧ c = 95 ∨ n = 0 := by
    intro n h
    unfold opKind at h
    repeat' split at h
    all_goals omega
  rcases (by omega : k = 4 ∨ k = 5 ∨ k = 6 ∨ k = 7 ∨ k = 8 ∨ k = 9) with rfl | rfl | rfl | rfl | rfl | rfl
  all_goals
    constructor
    · rintro rfl; rfl
    · intro h
      have := ho _ h
      show _ = c
      simp [beginsR]; omega
/-- The bytes of a string as numbers. -/
def bl (s : ByteArray) : List Int := s.data.toList.map fun b => (b.toNat : Int)
theorem bl_get (s : ByteArray) (k : Nat) (h : k < s.size) : (bl s)[k]? = some (s[k].toNat : Int) := by
  have : k < s.data.toList.length := h
  simp only [bl, List.getElem?_map, List.getElem?_eq_getElem this, Option.map_some]
  rfl
theorem u8_nat (c : Int) (h : 0 ≤ c ∧ c < 256) : ((UInt8.ofNat c.toNat).toNat : Int) = c := by
  have : (UInt8.ofNat c.toNat).toNat = c.toNat % 2 ^ 8 := UInt8.toNat_ofNat'
  rw [this]; omega
theorem bl_strOf (l : List Int) (h : ∀ c ∈ l, 0 ≤ c ∧ c < 256) : bl (strOf l) = l := by
  simp only [bl, strOf, List.map_map]
  conv => rhs; rw [← List.map_id l]
  apply List.map_congr_left
  intro c hc
  exact u8_nat c (h c hc)
end Go.Proofs.YtnnhaenmoifplaaDoor

namespace Go.Proofs.YtnnhaenmoifplaaDoor
set_option linter.unusedSimpArgs false
set_option linter.unusedVariables false
open Go.RowKit

theorem Rd.gr {w w' : World} {a : Option Addr} {n : Nat} {xs : List Value} (h : Rd w a n xs) (hg : Gr w w') : Rd w' a n xs := h.upd (Upd.of_gr (lv := []) hg) (by simp [Out])
end Go.Proofs.YtnnhaenmoifplaaDoor

namespace Go.Proofs.YtnnhaenmoifplaaDoor
set_option linter.unusedSimpArgs false
set_option linter.unusedVariables false
open Go.RowKit

/-- The document's tokens in memory. -/
structure RTok (w : World) (t : Tok) (q : Value × Value) : Prop where
  params : HasRow w 3 q.1 t.params.length (icells t.params)
  data : HasRow w 5 q.2 t.data.length (bcells t.data)
theorem hasRow_ne {w : World} {e e' n g : Nat} {v : Value} {xs : List Value} {c : Array Value} (h : HasRow w e v n xs) (hg : w.heap[g]? = some (.cells c e' (0, 0))) (hne : e ≠ e') : v.ownBlock ≠ some g := by
  intro hk
  rcases h.2 with ⟨rfl, _⟩ | ⟨g', cap, cur, rfl, ⟨fr, hh⟩, _⟩
  · cases hk
  simp only [Value.ownBlock, Option.some.injEq] at hk
  subst hk
  rw [hh] at hg
  simp at hg
  exact hne hg.2.1
theorem RTok.upd {w w' : World} {K : List Nat} {t : Tok} {q : Value × Value} (h : RTok w t q) (hu : Upd K w w') (hK : ∀ k ∈ K, k < w.heap.size → ∃ c e, w.heap[k]? = some (.cells c e (0, 0)) ∧ e ≠ 3 ∧ e ≠ 5) : RTok w' t q :=
  ⟨h.params.same fun k hk => hu.block k (h.params.blk hk) fun hm => by
      obtain ⟨c, e, hc, h1, h2⟩ := hK k hm (h.params.blk hk)
      exact hasRow_ne h.params hc (fun x => h1 x.symm) hk,
    h.data.same fun k hk => hu.block k (h.data.blk hk) fun hm => by
      obtain ⟨c, e, hc, h1, h2⟩ := hK k hm (h.data.blk hk)
      exact hasRow_ne h.data hc (fun x => h2 x.symm) hk⟩
theorem RTok.gr {w w' : World} {t : Tok} {q : Value × Value} (h : RTok w t q) (hg : Gr w w') : RTok w' t q := ⟨h.params.gr hg, h.data.gr hg⟩
end Go.Proofs.YtnnhaenmoifplaaDoor

namespace Go.Proofs.YtnnhaenmoifplaaDoor
set_option linter.unusedSimpArgs false
set_option linter.unusedVariables false
open Go.RowKit

theorem HasRow.rd {w : World} {e n : Nat} {v : Value} {xs : List Value} (h : HasRow w e v n xs) : ∃ a cap, v = .slice a n cap ∧ Rd w a n xs ∧ (n = 0 ∨ ∃ g, a = some ⟨g, 0, none⟩ ∧ v.ownBlock = some g) := by
  rcases h.2 with ⟨rfl, rfl⟩ | ⟨g, cap, cur, rfl, hh, hn, hc, ht⟩
  · exact ⟨none, 0, rfl, ⟨h.1, .inl rfl⟩, .inl rfl⟩
  · refine ⟨some ⟨g, 0, none⟩, cap, rfl, ⟨h.1, .inr ⟨g, 0, rfl, fun i u hu => ?_⟩⟩, .inr ⟨g, rfl, rfl⟩⟩
    rw [Nat.zero_add]
    exact h.cells (g := g) rfl i u hu

theorem gr_le {a b : World} (h : Gr a b) : a.heap.size ≤ b.heap.size := h.size
end Go.Proofs.YtnnhaenmoifplaaDoor
