/-
  append onto a slice without elements and without room, from whatever source: what was there is left as it was; append with wide bounds. Laws over any program.
  A token of the program's own, made of one that came in: Own, walked.
-/
import Derived.Laws.Tables
import Derived.Lib.ConvBytes
import Derived.Test.YtnnhaenmoifplaaDoorZSrc
import Derived.Test.YtnnhaenmoifplaaDoorZTkP
namespace Go.Proofs.YtnnhaenmoifplaaDoor
set_option linter.unusedSimpArgs false
set_option linter.unusedVariables false
open Go.RowKit

theorem run_append_new {P : Program} (w : World) (t tx ty e : TypeId) (i : TypeInfo) (z : Value) (bytes : Nat) (ht : P.underlying t = some (.slice e)) (hi : P.info? e = some i) (hz : i.zero = some z)
    (hsize : i.size = 1) (hby : i.bytes = bytes) (hzs : z.cells.size = 1) (g : Nat) (hgb : w.heap[g]? = some (.cells #[] e (0, 0)))
    (x : Value) (m : Nat) (news : List Value) (hs : Src P 1 tx x m news w) (h63 : m ≤ maxLen) (hbytes : m * bytes ≤ 140737488355328) :
    ∃ va cap w', (Builtin.append_ #[t, tx] ty #[.slice (some ⟨g, 0, none⟩) 0 0, x]).run P w = .ok (.slice va m cap) w' ∧ w'.ownsRow g e 1 (.slice va m cap) m news ∧ Gr w w' := by
  have hl := hs.newsLen
  have hgl : g < w.heap.size := (Array.getElem?_eq_some_iff.1 hgb).1
  by_cases hm : m = 0
  · subst hm
    have hn : news = [] := List.eq_nil_of_length_eq_zero (by simpa using hl)
    subst hn
    have hs' := hs
    rw [← hsize] at hs'
    exact ⟨_, _, w, run_append_nothing w t tx ty e i ht hi (some ⟨g, 0, none⟩) 0 0 (Nat.le_refl _) x hs', ⟨rfl, .inr ⟨g, 0, #[], rfl, Nat.le_refl _, hgb, Nat.le_refl _, Nat.zero_le _, rfl, rfl⟩⟩, Gr.refl w⟩
  · have hs' := hs
    rw [← hsize] at hs'
    have h63' : ((0 + m : Nat) : Int) ≤ 9223372036854775807 := by simp only [maxLen] at h63; omega
    have hr := run_append_grow_src (P := P) w t tx ty e i z ht hi hz (some ⟨g, 0, none⟩) 0 0 [] (run_firstCells_some w.drew i.size 0 ⟨g, 0, none⟩ 0 0 [] (by simp) (by simp)) x m news hs' (by omega) h63' (growslice_fits (by omega) (by rw [Nat.zero_add, hby]; exact hbytes))
    rw [Nat.zero_add] at hr
    have hge := grownCap_ge w m 0 e
    have hcm : grownCap w m 0 e ≤ maxLen := grownCap_le_maxLen w m 0 e h63
    refine ⟨_, _, _, hr, ⟨hl, .inr ⟨w.heap.size, _, _, rfl, by omega, heap_alloc_new w.drew _, hge, hcm, ?_, ?_⟩⟩, ((Gr.refl w).drew).alloc _⟩
    · simp only [Array.size_append, List.size_toArray, size_zeroCells, hzs, List.nil_append, hl]
      omega
    · simp only [Array.toList_append, List.nil_append]
      exact List.take_left' (by omega)

section
variable {P : Program} {ops : Array Oper} {rest : List Oper} {u : Oper} {a : Act} {w w0 : World} {K : Act → World → Prop} {Q : Exit → Act → World → Prop}
theorem wp_new (x y : Operand) (t tx : TypeId) (hu : u.op = .call { callee := .builtin .append, args := #[x, y], argTypes := #[t, tx] })
    (e : TypeId) (z : Value) (bytes : Nat) (ht : P.underlying t = some (.slice e)) (hinfo : (P.info? e).map (fun i => (i.zero, i.size, i.bytes)) = some (some z, 1, bytes)) (hzs : z.cells.size = 1)
    (g : Nat) (hx : a.eval x = .slice (some ⟨g, 0, none⟩) 0 0) (hgb : w.heap[g]? = some (.cells #[] e (0, 0)))
    (yv : Value) (m : Nat) (news : List Value) (hy : a.eval y = yv) (hs : Src P 1 tx yv m news w) (h63 : m ≤ maxLen) (hbytes : m * bytes ≤ 140737488355328)
    (H : ∀ va cap w', w'.ownsRow g e 1 (.slice va m cap) m news → Gr w w' → K (a.put u.dst (.slice va m cap)) w') : u.wp P a w K Q := by
  obtain ⟨i0, hi0, hz0, hz1, hz2⟩ := info_parts hinfo
  obtain ⟨va, cap, w', hrun, h2, h3⟩ := run_append_new (P := P) w t tx u.type e i0 z bytes ht hi0 hz0 hz1 hz2 hzs g hgb yv m news hs h63 hbytes
  unfold Oper.wp execOp
  simp only [hu, resolve, invoke, builtin, Sem.run_bind, Sem.run_pure, Result.andThen_ok, List.map_toArray, List.map_cons, List.map_nil, hx, hy, hrun]
  exact H va cap w' h2 h3
theorem wpList_new (hgd : u.guard = none) (x y : Operand) (t tx : TypeId) (hu : u.op = .call { callee := .builtin .append, args := #[x, y], argTypes := #[t, tx] })
    (e : TypeId) (z : Value) (bytes : Nat) (ht : P.underlying t = some (.slice e)) (hinfo : (P.info? e).map (fun i => (i.zero, i.size, i.bytes)) = some (some z, 1, bytes)) (hzs : z.cells.size = 1)
    (g : Nat) (hx : a.eval x = .slice (some ⟨g, 0, none⟩) 0 0) (hgb : w.heap[g]? = some (.cells #[] e (0, 0)))
    (yv : Value) (m : Nat) (news : List Value) (hy : a.eval y = yv) (hs : Src P 1 tx yv m news w) (h63 : m ≤ maxLen) (hbytes : m * bytes ≤ 140737488355328)
    (H : ∀ va cap w', w'.ownsRow g e 1 (.slice va m cap) m news → Gr w w' → wpList P ops Q rest (a.put u.dst (.slice va m cap)) w') : wpList P ops Q (u :: rest) a w :=
  wpList_plain hgd fun _ hK => wp_new x y t tx hu e z bytes ht hinfo hzs g hx hgb yv m news hy hs h63 hbytes fun va cap w' h2 h3 => hK _ _ (H va cap w' h2 h3)
/-- append, told by the block that may turn; wide bounds. -/
theorem wp_addW (x y : Operand) (t tx : TypeId) (hu : u.op = .call { callee := .builtin .append, args := #[x, y], argTypes := #[t, tx] })
    (e : TypeId) (z : Value) (bytes : Nat) (ht : P.underlying t = some (.slice e)) (hinfo : (P.info? e).map (fun i => (i.zero, i.size, i.bytes)) = some (some z, 1, bytes)) (hzs : z.cells.size = 1)
    (B : Nat) (v : Value) (n : Nat) (xs : List Value) (hx : a.eval x = v) (hown : w.ownsRow B e 1 v n xs) (hB : B ≤ w.heap.size)
    (yv : Value) (m : Nat) (news : List Value) (hy : a.eval y = yv) (hs : Src P 1 tx yv m news w) (hn : n + m ≤ maxLen) (hb : (n + m) * bytes ≤ 140737488355328)
    (H : ∀ va cap w', w'.ownsRow B e 1 (.slice va (n + m) cap) (n + m) (xs ++ news) → w.grownBy w' v.ownBlock → K (a.put u.dst (.slice va (n + m) cap)) w') : u.wp P a w K Q := by
  obtain ⟨i0, hi0, hz0, hz1, hz2⟩ := info_parts hinfo
  obtain ⟨v', w', hrun, h2, h3, _⟩ := run_append_src_own (P := P) w B t tx u.type e i0 z 1 bytes ht hi0 hz0 hz1 hz2 hzs (by omega) v n xs hown yv m news hs hn hb hB
  obtain ⟨va, cap, rfl⟩ := row_form h2
  unfold Oper.wp execOp
  simp only [hu, resolve, invoke, builtin, Sem.run_bind, Sem.run_pure, Result.andThen_ok, List.map_toArray, List.map_cons, List.map_nil, hx, hy, hrun]
  exact H va cap w' h2 h3
/-- append onto a row from w0 on; wide bounds. -/
theorem wp_addX (x y : Operand) (t tx : TypeId) (hu : u.op = .call { callee := .builtin .append, args := #[x, y], argTypes := #[t, tx] })
    (e : TypeId) (z : Value) (bytes : Nat) (ht : P.underlying t = some (.slice e)) (hinfo : (P.info? e).map (fun i => (i.zero, i.size, i.bytes)) = some (some z, 1, bytes)) (hzs : z.cells.size = 1)
    (v : Value) (n : Nat) (xs : List Value) (hx : a.eval x = v) (hown : w.ownsRow w0.heap.size e 1 v n xs) (hg : Gr w0 w)
    (yv : Value) (m : Nat) (news : List Value) (hy : a.eval y = yv) (hs : Src P 1 tx yv m news w) (hn : n + m ≤ maxLen) (hb : (n + m) * bytes ≤ 140737488355328)
    (H : ∀ va cap w', w'.ownsRow w0.heap.size e 1 (.slice va (n + m) cap) (n + m) (xs ++ news) → Gr w0 w' → w.grownBy w' v.ownBlock → K (a.put u.dst (.slice va (n + m) cap)) w') : u.wp P a w K Q :=
  wp_addW x y t tx hu e z bytes ht hinfo hzs w0.heap.size v n xs hx hown hg.size yv m news hy hs hn hb fun va cap w' h2 h3 => H va cap w' h2 (hg.grown hown (Nat.le_refl _) h3) h3
theorem wpList_addX (hgd : u.guard = none) (x y : Operand) (t tx : TypeId) (hu : u.op = .call { callee := .builtin .append, args := #[x, y], argTypes := #[t, tx] })
    (e : TypeId) (z : Value) (bytes : Nat) (ht : P.underlying t = some (.slice e)) (hinfo : (P.info? e).map (fun i => (i.zero, i.size, i.bytes)) = some (some z, 1, bytes)) (hzs : z.cells.size = 1)
    (v : Value) (n : Nat) (xs : List Value) (hx : a.eval x = v) (hown : w.ownsRow w0.heap.size e 1 v n xs) (hg : Gr w0 w)
    (yv : Value) (m : Nat) (news : List Value) (hy : a.eval y = yv) (hs : Src P 1 tx yv m news w) (hn : n + m ≤ maxLen) (hb : (n + m) * bytes ≤ 140737488355328)
    (H : ∀ va cap w', w'.ownsRow w0.heap.size e 1 (.slice va (n + m) cap) (n + m) (xs ++ news) → Gr w0 w' → w.grownBy w' v.ownBlock → wpList P ops Q rest (a.put u.dst (.slice va (n + m) cap)) w') : wpList P ops Q (u :: rest) a w :=
  wpList_plain hgd fun _ hK => wp_addX x y t tx hu e z bytes ht hinfo hzs v n xs hx hown hg yv m news hy hs hn hb fun va cap w' h2 h3 h4 => hK _ _ (H va cap w' h2 h3 h4)
theorem Gr.bytesWorld {w0 w : World} (h : Gr w0 w) (e : TypeId) (s : ByteArray) : Gr w0 (Lib.bytesWorld w e s) := by
  refine h.trans ⟨?_, ?_, ?_, ?_, fun k hk => Lib.bytesWorld_at_old w e s k hk⟩
  · simp [Lib.bytesWorld, World.freeze, World.alloc, World.drew, -World.alloc_eq, -World.drew_eq]
  · simp [Lib.bytesWorld, World.freeze, World.alloc, World.drew, -World.alloc_eq, -World.drew_eq]
  · simp [Lib.bytesWorld, World.freeze, World.alloc, World.drew, -World.alloc_eq, -World.drew_eq]
  · rw [Lib.bytesWorld_size]; omega
end
section
variable {P : Program} (w : World)
end
section
variable {P : Program} {ops : Array Oper} {rest : List Oper} {u : Oper} {a : Act} {w w0 : World} {K : Act → World → Prop} {Q : Exit → Act → World → Prop}
end
end Go.Proofs.YtnnhaenmoifplaaDoor

namespace Go.Proofs.YtnnhaenmoifplaaDoor
set_option linter.unusedSimpArgs false
set_option linter.unusedVariables false
open Go.RowKit
set_option linter.unusedVariables false

theorem intsT : Tryd.prog.underlying 31 = some (.slice 3) := Tryd.underlying31
theorem intI : (Tryd.prog.info? 3).map (fun i => (i.zero, i.size, i.bytes)) = some (some (.int .i64 0), 1, 8) := by kernel_rfl
theorem src_rd {P : Program} {t e : TypeId} (ht : P.underlying t = some (.slice e)) {w : World} {a : Option Addr} {n cap : Nat} {xs : List Value} (h : Rd w a n xs) (h1 : ∀ c ∈ xs, c.oneCell' = true) : Src P 1 t (.slice a n cap) n xs w := by
  have hl := h.1
  cases a with
  | none =>
    rcases h.2 with h0 | ⟨b, off, hb, _⟩
    · subst h0
      have : xs = [] := List.eq_nil_of_length_eq_zero hl
      subst this
      exact src_nil ht cap
    · cases hb
  | some x =>
    refine Src.ofSlice w ht x n cap xs (by omega) (fun j v hv => ?_) h1
    have hj : j < xs.length := (List.getElem?_eq_some_iff.1 hv).1
    rcases h.2 with h0 | ⟨b, off, hb, hc⟩
    · omega
    · injection hb with hb
      subst hb
      have e : (⟨b, off, none⟩ : Addr).add j = ⟨b, off + j, none⟩ := by rcases j with _ | j <;> simp [Addr.add]
      rw [e]
      exact hc j v hv

end Go.Proofs.YtnnhaenmoifplaaDoor
