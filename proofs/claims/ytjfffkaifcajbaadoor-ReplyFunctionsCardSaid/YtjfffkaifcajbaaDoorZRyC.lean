/-
  A token's copy and bytes as memory that may be written: what the law TokenKeeps needs.
  A token of an id and numbers, made by the program: reply.function, walked.
-/
import Derived.Deep.DeepCutAuto
import Derived.Deep.RegionHeld3
import Derived.OneCell
import Derived.Test.YtjfffkaifcajbaaDoorZTkCo
import Derived.Test.YtjfffkaifcajbaaDoorZTkX0
namespace Go.Proofs.YtjfffkaifcajbaaDoor
set_option linter.unusedSimpArgs false
set_option linter.unusedVariables false
open Go.RowKit
set_option linter.unusedVariables false

/-- An element of a row of the call's own is written. -/
theorem own_put {w : World} {B e n c g j : Nat} {xs : List Value} {u : Value} (h : w.ownsRow B e 1 (.slice (some ⟨g, 0, none⟩) n c) n xs) (hj : j < n) : (w.setCell ⟨g, j, none⟩ u).ownsRow B e 1 (.slice (some ⟨g, 0, none⟩) n c) n (xs.set j u) := by
  obtain ⟨h1, h2⟩ := h
  refine ⟨by simpa using h1, ?_⟩
  rcases h2 with ⟨h2, _⟩ | ⟨g', cap, cur, hv, hg, hh, hn, hm, hs, ht⟩
  · cases h2
  · injection hv with e1 _ e3
    injection e1 with e1
    injection e1 with e1
    subst e1
    subst e3
    refine .inr ⟨g, c, cur.setIfInBounds j u, rfl, hg, blk_set hh j u, hn, hm, by simpa using hs, ?_⟩
    rw [← ht, Array.toList_setIfInBounds, List.take_set]
/-- What an element of such a row holds; that it may be written. -/
theorem own_cellAt {w : World} {B e n c g j : Nat} {xs : List Value} (h : w.ownsRow B e 1 (.slice (some ⟨g, 0, none⟩) n c) n xs) {v : Value} (hv : xs[j]? = some v) : w.cell? ⟨g, j, none⟩ = some v ∧ w.frozen? ⟨g, j, none⟩ = false := by
  have h1 := h.cells (g := g) rfl j v hv
  have ea : (⟨g, 0, none⟩ : Addr).add j = ⟨g, j, none⟩ := by rcases j with _ | j <;> simp [Addr.add]
  refine ⟨by rw [← ea]; simpa using h1, ?_⟩
  rcases h.2 with ⟨h2, _⟩ | ⟨g', cap, cur, hv, hg, hh, r⟩
  · cases h2
  · injection hv with e1 _ e3
    injection e1 with e1
    injection e1 with e1
    subst e1
    simp [World.frozen?, hh]
theorem icells_set {l : List Int} {j : Nat} {x : Int} : (icells l).set j (.int .i64 x) = icells (l.set j x) := by simp [icells, List.map_set]
end Go.Proofs.YtjfffkaifcajbaaDoor

namespace Go.Proofs.YtjfffkaifcajbaaDoor
set_option linter.unusedSimpArgs false
set_option linter.unusedVariables false
open Go.RowKit
set_option linter.unusedVariables false

theorem nums_at {s : ByteArray} {k : Nat} (hk : k < s.size) : (nums s)[k]? = some ((s[k]'hk).toNat : Int) := by
  have h : k < (nums s).length := by rw [nums_len]; exact hk
  rw [List.getElem?_eq_getElem h]
  simp [nums, ByteArray.getElem_eq_getElem_data]
theorem nums_extract (s : ByteArray) (a b : Nat) : nums (s.extract a b) = ((nums s).drop a).take (b - a) := by
  unfold nums
  rw [← List.map_drop, ← List.map_take]
  congr 1
  rw [ByteArray.data_extract, Array.toList_extract]
theorem strOf_ext (s : ByteArray) (a b : Nat) : s.extract a b = strOf (((nums s).drop a).take (b - a)) := by
  rw [← nums_extract, nums_str]
/-- A function's token being made: its box, and the box of what is returned. -/
structure FBox (w : World) (T : Nat) (k c m : Int) (p : Value) (s : ByteArray) (w' : World) : Prop where
  box : w'.heap[T]? = some (.cells #[.int .i64 k, .int .u8 c, .int .u8 m, p, .string s, .slice none 0 0] 50 (0, 0))
  out : w'.heap[w.heap.size]? = some (.cells #[.int .i64 0, .int .u8 0, .int .u8 0, .slice none 0 0, .string ⟨#[]⟩, .slice none 0 0] 50 (0, 0))
  gr : Gr w w'
  lt : w.heap.size < T
/-- .. its numbers in a row of the call's own. -/
def FRow (w : World) (n : Nat) (p : Value) (l : List Int) (w' : World) : Prop := w'.ownsRow (w.heap.size + 1) 3 1 p n (icells l)
theorem FBox.drew {w w' : World} {T : Nat} {k c m : Int} {p : Value} {s : ByteArray} (h : FBox w T k c m p s w') : FBox w T k c m p s w'.drew := ⟨h.box, h.out, h.gr.drew, h.lt⟩
theorem FBox.set1 {w w' : World} {T : Nat} {k c m : Int} {p : Value} {s : ByteArray} (h : FBox w T k c m p s w') (x : Int) : FBox w T k x m p s (w'.setCell ⟨T, 1, none⟩ (.int .u8 x)) :=
  ⟨blk_set h.box 1 _, blk_far h.out (by have := h.lt; show w.heap.size ≠ T; omega) _, h.gr.setCell (Nat.le_of_lt h.lt) _, h.lt⟩
theorem FBox.set2 {w w' : World} {T : Nat} {k c m : Int} {p : Value} {s : ByteArray} (h : FBox w T k c m p s w') (x : Int) : FBox w T k c x p s (w'.setCell ⟨T, 2, none⟩ (.int .u8 x)) :=
  ⟨blk_set h.box 2 _, blk_far h.out (by have := h.lt; show w.heap.size ≠ T; omega) _, h.gr.setCell (Nat.le_of_lt h.lt) _, h.lt⟩
theorem FBox.set3 {w w' : World} {T : Nat} {k c m : Int} {p : Value} {s : ByteArray} (h : FBox w T k c m p s w') (x : Value) : FBox w T k c m x s (w'.setCell ⟨T, 3, none⟩ x) :=
  ⟨blk_set h.box 3 _, blk_far h.out (by have := h.lt; show w.heap.size ≠ T; omega) _, h.gr.setCell (Nat.le_of_lt h.lt) _, h.lt⟩
theorem FBox.set4 {w w' : World} {T : Nat} {k c m : Int} {p : Value} {s : ByteArray} (h : FBox w T k c m p s w') (x : ByteArray) : FBox w T k c m p x (w'.setCell ⟨T, 4, none⟩ (.string x)) :=
  ⟨blk_set h.box 4 _, blk_far h.out (by have := h.lt; show w.heap.size ≠ T; omega) _, h.gr.setCell (Nat.le_of_lt h.lt) _, h.lt⟩
/-- A store into a token's box leaves a row of integers as it was. -/
theorem FRow.set {w w' : World} {n T o : Nat} {p : Value} {l : List Int} {cs : Array Value} (h : FRow w n p l w') (hb : w'.heap[T]? = some (.cells cs 50 (0, 0))) (u : Value) : FRow w n p l (w'.setCell ⟨T, o, none⟩ u) := by
  refine ownsRow_same h fun k hk => Below.heap_setCell w' ⟨T, o, none⟩ u k ?_
  intro e
  have e' : k = T := e
  rw [← e'] at hb
  rcases h.2 with ⟨rfl, _⟩ | ⟨g, cap, cur, rfl, _, hh, _⟩
  · cases hk
  · have hk' : g = k := by simpa [Value.ownBlock] using hk
    rw [← hk', hh] at hb
    simp at hb
theorem FRow.drew {w w' : World} {n : Nat} {p : Value} {l : List Int} (h : FRow w n p l w') : FRow w n p l w'.drew := ownsRow_gr h (Gr.refl _).drew
def FunTo (w : World) (kind : Int) (id ps : List Int) (e : Ending) (w' : World) : Prop :=
  ∃ va ca, e = .returned (.agg #[.int .i64 kind, .int .u8 ((restR id).getLastD 0), .int .u8 (markR id), .slice va (min ps.length 30) ca, .string (strOf (restR id).dropLast), .slice none 0 0]) ∧ w'.ownsRow w.heap.size 3 1 (.slice va (min ps.length 30) ca) (min ps.length 30) (icells ((ps.take 30).map clip16)) ∧ Gr w w'
def FMark (w wA : World) (L : List Int) (v : Value) (wx : World) : Prop := v = .bool (markB L) ∧ wx = wA
def FRest (w : World) (T n : Nat) (k : Int) (p : Value) (ps L : List Int) (v : Value) (wx : World) : Prop := ∃ t, v = .string t ∧ nums t = restR L ∧ FBox w T k 0 (markR L) p ⟨#[]⟩ wx ∧ FRow w n p ps wx
def FIn (w : World) (T n : Nat) (k c m : Int) (s : ByteArray) (p : Value) (l : List Int) (j : Nat) (wr : World) : Prop := FBox w T k c m p s wr ∧ FRow w n p ((l.take j).map clip16 ++ l.drop j) wr
theorem FIn.ne {w wr : World} {T n ca j g : Nat} {k c m : Int} {s : ByteArray} {l : List Int} (h : FIn w T n k c m s (.slice (some ⟨g, 0, none⟩) n ca) l j wr) : g ≠ T := by
  rintro rfl
  rcases h.2.2 with ⟨hv, _⟩ | ⟨g', cap, cur, hv, _, hh, _⟩
  · cases hv
  · injection hv with hv; injection hv with hv; injection hv with hv; subst hv
    have := h.1.box
    rw [hh] at this
    simp at this
theorem FIn.next {w wr : World} {T n ca j g : Nat} {k c m x : Int} {s : ByteArray} {l : List Int} (h : FIn w T n k c m s (.slice (some ⟨g, 0, none⟩) n ca) l j wr) (hn : l.length = n) (hj : j < n) (hx : l[j]? = some x) : FIn w T n k c m s (.slice (some ⟨g, 0, none⟩) n ca) l (j + 1) (wr.setCell ⟨g, j, none⟩ (.int .i64 (clip16 x))) := by
  obtain ⟨h1, h2⟩ := h
  have hgT : g ≠ T := FIn.ne ⟨h1, h2⟩
  have hg : w.heap.size + 1 ≤ g := ownsRow_base h2 rfl
  refine ⟨⟨blk_far h1.box (fun e => hgT e.symm) _, blk_far h1.out (by show w.heap.size ≠ g; omega) _, h1.gr.setCell (by show w.heap.size ≤ g; omega) _, h1.lt⟩, ?_⟩
  have h3 := own_put (u := .int .i64 (clip16 x)) h2 hj
  rw [icells_set] at h3
  have e : ((l.take j).map clip16 ++ l.drop j).set j (clip16 x) = (l.take (j + 1)).map clip16 ++ l.drop (j + 1) := by
    obtain ⟨hjl, hxe⟩ := List.getElem?_eq_some_iff.1 hx
    have hlen : ((l.take j).map clip16).length = j := by simp; omega
    rw [List.set_append_right _ _ (by omega), hlen, Nat.sub_self, List.drop_eq_getElem_cons hjl, List.set_cons_zero, List.take_succ_eq_append_getElem hjl, List.map_append, List.append_assoc, hxe]
    rfl
  rw [e] at h3
  exact h3
theorem own_or2 {w : World} {B e n c : Nat} {a : Option Addr} {xs : List Value} (h : w.ownsRow B e 1 (.slice a n c) n xs) : (n = 0 ∧ a = none ∧ c = 0) ∨ ∃ g, a = some ⟨g, 0, none⟩ ∧ B ≤ g ∧ g < w.heap.size ∧ n ≤ c := by
  rcases h.2 with ⟨h2, _⟩ | ⟨g, cap, cur, hv, hg, hh, hn, r⟩
  · injection h2 with h1 h2 h3; exact .inl ⟨h2, h1, h3⟩
  · injection hv with e1 e2 e3
    subst e3
    exact .inr ⟨g, e1, hg, (Array.getElem?_eq_some_iff.1 hh).1, hn⟩
/-- A row cut behind some of its elements. -/
theorem own_take {w : World} {B e n c m g : Nat} {xs : List Value} (h : w.ownsRow B e 1 (.slice (some ⟨g, 0, none⟩) n c) n xs) (hm : m ≤ n) : w.ownsRow B e 1 (.slice (some ⟨g, 0, none⟩) m c) m (xs.take m) := by
  obtain ⟨h1, h2⟩ := h
  refine ⟨by simp; omega, ?_⟩
  rcases h2 with ⟨h2, _⟩ | ⟨g', cap, cur, hv, hg, hh, hn, hmx, hs, ht⟩
  · cases h2
  · injection hv with e1 _ e3
    injection e1 with e1
    injection e1 with e1
    subst e1
    subst e3
    refine .inr ⟨g, c, cur, rfl, hg, hh, by omega, hmx, hs, ?_⟩
    rw [← ht, List.take_take]
    congr 1
    omega
theorem ints_to (g n cap m : Nat) (hm : m ≤ n) (hn : n ≤ cap) (W : World) : (Instr.slice 35 (.slice (some ⟨g, 0, none⟩) n cap) none (some (.int .i64 (m : Int))) none).run Tryd.prog W = .ok (.slice (some ⟨g, 0, none⟩) m cap) W := by
  rw [run_slice_h W 35 _ n cap ints_elem .i64 m (by omega) (by omega), ints_size]
  simp [Result.andThen, sliced, Addr.add]
theorem fldT (a b c d e f : Value) (w : World) : (Instr.field 50 (.agg #[a, b, c, d, e, f]) 3).run Tryd.prog w = .ok d w := by kernel_rfl
theorem str_to (t : ByteArray) (m : Nat) (h : m ≤ t.size) (W : World) : (Instr.slice 9 (.string t) none (some (.int .i64 (m : Int))) none).run Tryd.prog W = .ok (.string (t.extract 0 m)) W := by
  rw [run_slice_string_to_if (h := Tryd.underlying9), if_pos ⟨by omega, by omega⟩]
  simp
theorem FIn.drew {w wr : World} {T n j : Nat} {k c m : Int} {s : ByteArray} {p : Value} {l : List Int} (h : FIn w T n k c m s p l j wr) : FIn w T n k c m s p l j wr.drew := ⟨h.1.drew, FRow.drew h.2⟩
theorem ints_to0 (W : World) : (Instr.slice 35 (.slice none 0 0) none (some (.int .i64 ((0 : Nat) : Int))) none).run Tryd.prog W = .ok (.slice none 0 0) W := by
  obtain ⟨z, hz⟩ : ∃ z : Nat, z = 0 := ⟨_, rfl⟩
  rw [← hz, run_slice_h W 35 _ z z ints_elem .i64 z (by omega) (by omega), ints_size]
  simp [Result.andThen, sliced, hz]
/-- The numbers cut to thirty. -/
theorem fun_cut {w wc : World} {T n ca m : Nat} {k C M : Int} {I : ByteArray} {va : Option Addr} {ps : List Int} (hF : FBox w T k C M (.slice va n ca) I wc) (hR : FRow w n (.slice va n ca) ps wc) (hm : m ≤ n) :
    (∀ W : World, (Instr.slice 35 (.slice va n ca) none (some (.int .i64 (m : Int))) none).run Tryd.prog W = .ok (.slice va m ca) W) ∧ FIn w T m k C M I (.slice va m ca) (ps.take m) 0 (wc.setCell ⟨T, 3, none⟩ (.slice va m ca)) ∧ (0 < m → ∃ g, va = some ⟨g, 0, none⟩) := by
  rcases own_or2 hR with ⟨rfl, rfl, rfl⟩ | ⟨g, rfl, hg1, hg2, hnc⟩
  · obtain rfl : m = 0 := by omega
    refine ⟨fun W => ints_to0 W, ⟨hF.set3 _, ?_⟩, fun h => by omega⟩
    have := hR.set hF.box (.slice none 0 0) (o := 3)
    have hn : ps = [] := by have := hR.1; simpa [icells] using this
    subst hn
    exact this
  · have hrow := own_take (hR.set hF.box (.slice (some ⟨g, 0, none⟩) m ca) (o := 3)) hm
    have hic : (icells ps).take m = icells (ps.take m) := by simp [icells, List.map_take]
    rw [hic] at hrow
    exact ⟨ints_to g n ca m hm hnc, ⟨hF.set3 _, by simpa [FRow] using hrow⟩, fun _ => ⟨g, rfl⟩⟩
end Go.Proofs.YtjfffkaifcajbaaDoor
