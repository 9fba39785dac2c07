/-
  A token's copy and bytes as memory that may be written: what the law TokenKeeps needs.
-/
import Derived.OneCell
import Derived.Test.YtgbmjlajheeciaaDoorZTkX
import Derived.Test.YtgbmjlajheeciaaDoorZTkCo
namespace Go.Proofs.YtgbmjlajheeciaaDoor
set_option linter.unusedSimpArgs false
set_option linter.unusedVariables false
open Go.RowKit
set_option linter.unusedVariables false

/-- An element of a row of the call's own is written. -/
theorem own_put {w : World} {B e n c g j : Nat} {xs : List Value} {u : Value} (h : w.ownsRow B e 1 (.slice (some ⟨g, 0, none⟩) n c) n xs) (hj : j < n) : (w.setCell ⟨g, j, none⟩ u).ownsRow B e 1 (.slice (some ⟨g, 0, none⟩) n c) n (xs.set j u) := by
  obtain ⟨h1, h2⟩ := h
  refine ⟨by simpa using h1, ?_⟩
  rcases h2 with ⟨h2, _⟩ | ⟨g', cap, cur, hv, hg, hh, hn, hm, hs, ht⟩
  · cases h2
  · injection hv with e1 _ e3
    injection e1 with e1
    injection e1 with e1
    subst e1
    subst e3
    refine .inr ⟨g, c, cur.setIfInBounds j u, rfl, hg, blk_set hh j u, hn, hm, by simpa using hs, ?_⟩
    rw [← ht, Array.toList_setIfInBounds, List.take_set]
/-- What an element of such a row holds; that it may be written. -/
theorem own_cellAt {w : World} {B e n c g j : Nat} {xs : List Value} (h : w.ownsRow B e 1 (.slice (some ⟨g, 0, none⟩) n c) n xs) {v : Value} (hv : xs[j]? = some v) : w.cell? ⟨g, j, none⟩ = some v ∧ w.frozen? ⟨g, j, none⟩ = false := by
  have h1 := h.cells (g := g) rfl j v hv
  have ea : (⟨g, 0, none⟩ : Addr).add j = ⟨g, j, none⟩ := by rcases j with _ | j <;> simp [Addr.add]
  refine ⟨by rw [← ea]; simpa using h1, ?_⟩
  rcases h.2 with ⟨h2, _⟩ | ⟨g', cap, cur, hv, hg, hh, r⟩
  · cases h2
  · injection hv with e1 _ e3
    injection e1 with e1
    injection e1 with e1
    subst e1
    simp [World.frozen?, hh]
/-- The blocks of two rows of different elements differ. -/
theorem own_apart {w : World} {B B' e e' n n' : Nat} {v v' : Value} {xs xs' : List Value} (h : w.ownsRow B e 1 v n xs) (h' : w.ownsRow B' e' 1 v' n' xs') (he : e ≠ e') {g : Nat} (hg : v.ownBlock = some g) : v'.ownBlock ≠ some g := by
  intro hg'
  rcases h.2 with ⟨h2, _⟩ | ⟨g1, cap, cur, hv, _, hh, r⟩
  · rw [h2] at hg; cases hg
  · rcases h'.2 with ⟨h2, _⟩ | ⟨g2, cap', cur', hv', _, hh', r'⟩
    · rw [h2] at hg'; cases hg'
    · rw [hv] at hg
      rw [hv'] at hg'
      injection hg with hg
      injection hg' with hg'
      simp only at hg hg'
      subst hg
      subst hg'
      rw [hh] at hh'
      injection hh' with hh'
      injection hh' with _ hh' _
      exact he hh'
theorem icells_set {l : List Int} {j : Nat} {x : Int} : (icells l).set j (.int .i64 x) = icells (l.set j x) := by simp [icells, List.map_set]
theorem bcells_set {l : List Int} {j : Nat} {x : Int} : (bcells l).set j (.int .u8 x) = bcells (l.set j x) := by simp [bcells, List.map_set]

/-- The bytes of any token: memory of the call's own. -/
theorem bytes_own {w : World} {t : Tok} {q : Value × Value} (hr : TRange t) (h : RTok w t q) (hT : tabT w) (eight : Bool) :
    Calls Tryd.prog 14 #[.agg (tcells t q).toArray, .bool eight] w fun e w' => ∃ va vc l, e = .returned (.tuple #[.slice va l.length vc, .int .i64 (checkR t)]) ∧ (checkR t = 0 → l = bytesR t eight) ∧ w'.ownsRow w.heap.size 5 1 (.slice va l.length vc) l.length (bcells l) ∧ Gr w w' := by
  by_cases h0 : checkR t = 0
  · refine (bytes_can (check_zero hr h0) h hT eight).mono ?_
    rintro e w' ⟨v, rfl, ⟨w0, hg0, hb⟩, hg⟩
    obtain ⟨va, vc, rfl⟩ := hb.form
    exact ⟨va, vc, bytesR t eight, by rw [h0], fun _ => rfl, World.ownsRow.mono hb (gr_le hg0), hg⟩
  · refine (bytes_none hr h h0 eight).mono ?_
    rintro e w' ⟨rfl, hg⟩
    exact ⟨none, 0, [], rfl, fun e => absurd e h0, World.ownsRow_nil _ _ _ _, hg⟩
/-- What else is known of a token's functions. -/
structure KeepKit (w : World) (T : Tok) (k c m : Int) (s : ByteArray) (n1 n2 : Nat) (r : Int) : Prop where
  copy : ∀ W pa pc da dc, RTok W T (.slice pa n1 pc, .slice da n2 dc) → Calls Tryd.prog 20 #[.agg #[.int .i64 k, .int .u8 c, .int .u8 m, .slice pa n1 pc, .string s, .slice da n2 dc]] W fun e w' => ∃ va ca vb cb, e = .returned (.agg #[.int .i64 k, .int .u8 c, .int .u8 m, .slice va n1 ca, .string s, .slice vb n2 cb]) ∧ OTok W.heap.size w' T (.slice va n1 ca, .slice vb n2 cb) ∧ Gr W w'
  bytes : ∀ W pa pc da dc, RTok W T (.slice pa n1 pc, .slice da n2 dc) → Gr w W → ∀ eight, Calls Tryd.prog 14 #[.agg #[.int .i64 k, .int .u8 c, .int .u8 m, .slice pa n1 pc, .string s, .slice da n2 dc], .bool eight] W fun e w' => ∃ va vc l, e = .returned (.tuple #[.slice va l.length vc, .int .i64 r]) ∧ (r = 0 → l = bytesR T eight) ∧ w'.ownsRow W.heap.size 5 1 (.slice va l.length vc) l.length (bcells l) ∧ Gr W w'
  same : ∀ W pa pc da dc pa' pc' da' dc', RTok W T (.slice pa n1 pc, .slice da n2 dc) → RTok W T (.slice pa' n1 pc', .slice da' n2 dc') → Calls Tryd.prog 18 #[.agg #[.int .i64 k, .int .u8 c, .int .u8 m, .slice pa n1 pc, .string s, .slice da n2 dc], .agg #[.int .i64 k, .int .u8 c, .int .u8 m, .slice pa' n1 pc', .string s, .slice da' n2 dc']] W fun e w' => e = .returned (.bool true) ∧ Gr W w'
theorem keepKit {w : World} {T : Tok} {k c m : Int} {s : ByteArray} {a1 a2 : Option Addr} {n1 c1 n2 c2 : Nat} {r : Int} (K : TokKit w T k c m s a1 a2 n1 c1 n2 c2 r) (b1 : n1 * 8 ≤ 140737488355328) (b2 : n2 ≤ 140737488355328) (hT : tabT w) : KeepKit w T k c m s n1 n2 r := by
  obtain ⟨rfl, rfl, rfl, rfl, rfl⟩ := K.parts
  have h1 := K.len1
  have h2 := K.len2
  refine ⟨fun W pa pc da dc hq => ?_, fun W pa pc da dc hq hg eight => bytes_own K.range hq (hT.gr hg) eight, fun W pa pc da dc pa' pc' da' dc' hq hq' => ?_⟩
  · have hp := hq.params
    have hd := hq.data
    simp only at hp hd
    rw [h1] at hp
    rw [h2] at hd
    refine (copy_walk hp hd b1 b2).mono ?_
    rintro e w' ⟨va, ca, vb, cb, rfl, e1, e2, hg⟩
    exact ⟨va, ca, vb, cb, rfl, ⟨by rw [h1]; exact e1, by rw [h2]; exact e2⟩, hg⟩
  · have h3 := psame_any (c1 := pc) (c2 := dc) (d1 := pc') (d2 := dc') K.range K.range (RdTok.of_r hq h1 h2 K.small) (RdTok.of_r hq' h1 h2 K.small)
    rw [(sameT_iff T T).2 rfl] at h3
    exact h3
end Go.Proofs.YtgbmjlajheeciaaDoor
