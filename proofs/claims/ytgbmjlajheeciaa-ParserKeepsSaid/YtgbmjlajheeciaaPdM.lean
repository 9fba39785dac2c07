/-
  A parser's Clone, walked.
-/
import Derived.Test.YtgbmjlajheeciaaPdI
import Derived.Test.YtgbmjlajheeciaaPdE
namespace Go.Proofs.Ytgbmjlajheeciaa
set_option linter.unusedSimpArgs false
set_option linter.unusedVariables false
open Go.RowKit

set_option maxHeartbeats 2000000 in
set_option maxRecDepth 100000 in
theorem cloneH_bytes {n : Nat} {v : Value} {l : List Int} {w : World} (h : HasRow w 5 v n (bcells l)) (hn : n ≤ 100000) :
    Calls Try.prog 32 #[v] w fun e w' => ∃ v', e = .returned v' ∧ w'.ownsRow w.heap.size 5 1 v' n (bcells l) ∧ Gr w w' := by
  have q22 : ∀ (w : World) (a : Option Addr) (n c n' c' : Nat), (binOp .eql 22 (.slice a n c) (.slice none n' c')).run Try.prog w = .ok (.bool a.isNone) w := fun w a n c n' c' => Lib.run_eql_slice_nil w _ _ a n c n' c' Try.underlying22
  rcases h.2 with ⟨rfl, rfl⟩ | ⟨g, cap, cur, rfl, hh, hnc, hcm, htk⟩
  · have : l = [] := by have := h.1; simp [bcells] at this; exact this
    subst this
    clear h
    go_enter Try.func32, Try.ntmps32
    go_wp2_with fail
    go_ret
    exact ⟨_, rfl, World.ownsRow_nil _ _ _ _, .refl _⟩
  · have hrd := h.rd_
    clear h hh htk
    go_enter Try.func32, Try.ntmps32
    go_wp2_with (at_builtin; refine wpList_copyRd rfl _ _ _ rfl 5 _ 1 Try.underlying22 uint8_info rfl (by omega) n cap (some ⟨g, 0, none⟩) (bcells l) rfl rfl hrd (bcells_one l) (by omega) ?_; intro va vc w2 hown2 hgx2)
    go_ret
    exact ⟨_, rfl, hown2, hgx2⟩
theorem icells_one (l : List Int) : ∀ u ∈ icells l, u.oneCell' = true := by
  intro u hu
  simp only [icells, List.mem_map] at hu
  obtain ⟨c, _, rfl⟩ := hu
  rfl
set_option maxHeartbeats 2000000 in
set_option maxRecDepth 100000 in
theorem cloneH_ints {n : Nat} {v : Value} {l : List Int} {w : World} (h : HasRow w 3 v n (icells l)) (hn : n ≤ 100000) :
    Calls Try.prog 49 #[v] w fun e w' => ∃ v', e = .returned v' ∧ w'.ownsRow w.heap.size 3 1 v' n (icells l) ∧ Gr w w' ∧ (v = .slice none 0 0 → v' = .slice none 0 0) := by
  have q22 : ∀ (w : World) (a : Option Addr) (n c n' c' : Nat), (binOp .eql 29 (.slice a n c) (.slice none n' c')).run Try.prog w = .ok (.bool a.isNone) w := fun w a n c n' c' => Lib.run_eql_slice_nil w _ _ a n c n' c' Try.underlying29
  rcases h.2 with ⟨rfl, rfl⟩ | ⟨g, cap, cur, rfl, hh, hnc, hcm, htk⟩
  · have : l = [] := by have := h.1; simp [icells] at this; exact this
    subst this
    clear h
    go_enter Try.func49, Try.ntmps49
    go_wp2_with fail
    go_ret
    exact ⟨_, rfl, World.ownsRow_nil _ _ _ _, .refl _, fun _ => rfl⟩
  · have hrd := h.rd_
    clear h hh htk
    go_enter Try.func49, Try.ntmps49
    go_wp2_with (at_builtin; refine wpList_copyRd rfl _ _ _ rfl 3 _ 8 Try.underlying29 int_info rfl (by omega) n cap (some ⟨g, 0, none⟩) (icells l) rfl rfl hrd (icells_one l) (by omega) ?_; intro va vc w2 hown2 hgx2)
    go_ret
    exact ⟨_, rfl, hown2, hgx2, fun h => by cases h⟩

/-! ### A part of a block that is known whole is stored -/
def setL (C : Array Value) : Nat → List Value → Array Value
  | _, [] => C
  | o, v :: r => setL (C.setIfInBounds o v) (o + 1) r
theorem setCells_blk {g : Nat} {t : TypeId} : ∀ (vs : List Value) (o : Nat) (w : World) (C : Array Value), w.heap[g]? = some (.cells C t (0, 0)) → (w.setCells g o vs).heap[g]? = some (.cells (setL C o vs) t (0, 0)) ∧ Upd [g] w (w.setCells g o vs) ∧ (w.setCells g o vs).heap.size = w.heap.size := by
  intro vs
  induction vs with
  | nil => intro o w C h; exact ⟨h, .refl _ _, rfl⟩
  | cons v r ih =>
    intro o w C h
    obtain ⟨h1, h2, h3⟩ := ih (o + 1) (w.setCell ⟨g, o, none⟩ v) (C.setIfInBounds o v) (blk_set h o v)
    exact ⟨h1, (Upd.of_setCell w g o v).trans1 h2, by rw [World.setCells, h3]; simp⟩
theorem wpList_store_part {P : Program} {ops : Array Oper} {rest : List Oper} {o : Oper} {a : Act} {w : World} {Q : Exit → Act → World → Prop}
    (hgd : o.guard = none) (ty : TypeId) (x y : Operand) (ho : o.op = .store ty x y) (g off : Nat) (cells : Array Value)
    (hx : a.eval x = .pointer (some ⟨g, off, none⟩)) (hy : a.eval y = .agg cells) (t : TypeId) (old new : Array Value) (hg : w.heap[g]? = some (.cells old t (0, 0))) (hroom : off + cells.size ≤ old.size)
    (hi : (P.info? ty).map (·.size) = some cells.size) (h1 : cells.all (·.oneCell') = true) (hnew : setL old off cells.toList = new)
    (h : ∀ w', w'.heap[g]? = some (.cells new t (0, 0)) → Upd [g] w w' → w'.heap.size = w.heap.size → wpList P ops Q rest (a.put o.dst undef) w') : wpList P ops Q (o :: rest) a w := by
  refine wpList_store_mid hgd ty x y ho g off cells hx hy (fun j hj => ?_) hi h1 ?_
  · refine ⟨?_, by simp [World.frozen?, hg]⟩
    have : off + j < old.size := by omega
    simp [World.cell?, hg, this]
  · obtain ⟨k1, k2, k3⟩ := setCells_blk (t := t) cells.toList off w old hg
    rw [hnew] at k1
    exact h _ k1 k2 k3
theorem wpList_load_whole {P : Program} {ops : Array Oper} {rest : List Oper} {op : Oper} {a : Act} {w : World} {Q : Exit → Act → World → Prop} (hgd : op.guard = none) (ty : TypeId) (x : Operand) (ho : op.op = .load ty x)
    (b o : Nat) (hx : a.eval x = .pointer (some ⟨b, o, none⟩)) (cs : Array Value) (d : TypeDesc) (hc : w.rangeAt b o cs.toList)
    (hu : P.underlying ty = some d) (hd : d.isRow = true) (hi : (P.info? ty).map (·.size) = some cs.toList.length)
    (h : wpList P ops Q rest (a.put op.dst (.agg cs)) w) : wpList P ops Q (op :: rest) a w :=
  wpList_load_mid hgd ty x ho b o hx cs.toList d hc hu hd hi (by simpa using h)
theorem range_part {w : World} {g : Nat} {C : Array Value} {t : TypeId} (h : w.heap[g]? = some (.cells C t (0, 0))) (o : Nat) (cs : List Value) (hc : ∀ j v, cs[j]? = some v → C[o + j]? = some v) : w.rangeAt g o cs :=
  fun j v hj => cell_of_row h _ _ (hc j v hj)

theorem ownsRow_le {w : World} {B B' e size n : Nat} {v : Value} {xs : List Value} (hB : B' ≤ B) (h : w.ownsRow B e size v n xs) : w.ownsRow B' e size v n xs := by
  refine ⟨h.1, ?_⟩
  rcases h.2 with h2 | ⟨g, cap, cur, hv, hg, r⟩
  · exact .inl h2
  · exact .inr ⟨g, cap, cur, hv, Nat.le_trans hB hg, r⟩
/-! ### The accumulator's clone -/
set_option maxHeartbeats 1000000 in
set_option maxRecDepth 100000 in
theorem acc_clone {lv : List Nat} {w : World} {p : Nat} {s : PS} {iv dv av : Value} (hok : s.ok) (h : PMem lv w p s iv dv av) :
    Calls Try.prog 33 #[.pointer (some ⟨p, 8, none⟩)] w fun e w' => ∃ av', e = .returned (.pointer (some ⟨w.heap.size, 0, none⟩)) ∧ w'.heap[w.heap.size]? = some (.cells #[av', .int .i64 s.now, .bool s.begun] 33 (0, 0)) ∧
      w'.ownsRow w.heap.size 3 1 av' s.done.length (icells s.done) ∧ Gr w w' := by
  obtain ⟨k0, k1, k2, k3, k4, k5, k6, k7, k8, k9, k10, k11, k12, kf⟩ := cells13 h.blk
  have hd := HasRow.of_own h.done
  obtain ⟨a1, c1, rfl⟩ := row_form h.done
  have hn := hok.done
  have hg0 := (Gr.refl w).alloc (.cells #[.slice a1 s.done.length c1, .int .i64 s.now, .bool s.begun] 33)
  have hpl := blk_lt h.blk
  obtain ⟨j0, j1, j2, j3, j4, j5, j6, j7, j8, j9, j10, j11, j12, jf⟩ := cells13 (hg0.blk h.blk)
  clear h
  go_enter Try.func33, Try.ntmps33
  go_wp2_with (go_at_call 49; refine (cloneH_ints (hd.gr hg0) (by omega)).mono ?_; rintro e w1 ⟨v1, rfl, hr1, hg1, hnl⟩; clear hnl; obtain ⟨b1, d1, rfl⟩ := row_form hr1; have hb1 := hg1.blk (heap_alloc_new w _); obtain ⟨z0, z1, z2, zf⟩ := cells3 hb1)
  go_ret
  refine ⟨.slice b1 s.done.length d1, rfl, blk_set hb1 0 _, ownsRow_le (by simp) (ownsRow_same hr1 fun k hk => ?_), (hg0.trans hg1).setCell (Nat.le_refl _) _⟩
  have := ownsRow_base hr1 hk
  simp at this
  exact Below.heap_setCell _ _ _ _ (by simp; omega)

/-! ### A token's copy -/
def tbk (w : World) (T : Nat) (t : Tok) (x3 x5 : Value) : Prop := w.heap[T]? = some (.cells #[.int .i64 t.kind, .int .u8 t.code, .int .u8 t.mark, x3, .string (strOf t.inters), x5] 31 (0, 0))
theorem tbk.set3 {w : World} {T : Nat} {t : Tok} {x3 x5 : Value} (h : tbk w T t x3 x5) (u : Value) : tbk (w.setCell ⟨T, 3, none⟩ u) T t u x5 := by
  unfold tbk; rw [blk_set h 3 u]; rfl
theorem tbk.set5 {w : World} {T : Nat} {t : Tok} {x3 x5 : Value} (h : tbk w T t x3 x5) (u : Value) : tbk (w.setCell ⟨T, 5, none⟩ u) T t x3 u := by
  unfold tbk; rw [blk_set h 5 u]; rfl
/-- Where nothing was, nothing is. -/
def Nl (b : Bool) (v : Value) : Prop := b = true → v = .slice none 0 0
/-- A row that is new. -/
def NewI (T : Nat) (l : List Int) (v : Value) (w : World) : Prop := w.ownsRow (T + 2) 3 1 v l.length (icells l)
def NewB (T : Nat) (l : List Int) (v : Value) (w : World) : Prop := w.ownsRow (T + 2) 5 1 v l.length (bcells l)
/-- What holds on the way: only the box and new blocks have changed. -/
def BaseC (nl : Bool) (w0 : World) (T : Nat) (t : Tok) (w' : World) : Prop := T + 2 ≤ w'.heap.size ∧ w0.heap.size = T + 2 ∧ Upd [T] w0 w' ∧ ∃ x3 x5, tbk w' T t x3 x5 ∧ HasRow w' 3 x3 t.params.length (icells t.params) ∧ HasRow w' 5 x5 t.data.length (bcells t.data) ∧ Nl nl x3
def FactC (nl : Bool) (T : Nat) (t : Tok) : Nat → Value → World → Prop
  | 0, v, _ => v = .pointer (some ⟨T, 3, none⟩)
  | 1, v, w' => HasRow w' 3 v t.params.length (icells t.params) ∧ Nl nl v
  | 2, v, w' => NewI T t.params v w' ∧ Nl nl v
  | 3, v, _ => v = .pointer (some ⟨T, 5, none⟩)
  | 4, v, w' => HasRow w' 5 v t.data.length (bcells t.data)
  | 5, v, w' => NewB T t.data v w'
  | 6, v, _ => v = .pointer (some ⟨T, 3, none⟩)
  | 7, _, w' => ∃ x3 x5, tbk w' T t x3 x5 ∧ NewI T t.params x3 w' ∧ Nl nl x3
  | 8, v, _ => v = .pointer (some ⟨T, 5, none⟩)
  | 9, _, w' => ∃ x3 x5, tbk w' T t x3 x5 ∧ NewB T t.data x5 w'
  | _, _, _ => True
theorem hasRow_set {w : World} {T : Nat} {C : Array Value} {e n : Nat} {v : Value} {xs : List Value} (hT : w.heap[T]? = some (.cells C 31 (0, 0))) (h : HasRow w e v n xs) (he : e ≠ 31) (i : Nat) (u : Value) : HasRow (w.setCell ⟨T, i, none⟩ u) e v n xs :=
  h.same fun k hk => Below.heap_setCell _ _ _ _ (fun e' => hasRow_ne h hT he (by have e2 : k = T := e'; rw [← e2]; exact hk))
theorem own_set {w : World} {T : Nat} {C : Array Value} {B e n : Nat} {v : Value} {xs : List Value} (hT : w.heap[T]? = some (.cells C 31 (0, 0))) (h : w.ownsRow B e 1 v n xs) (he : e ≠ 31) (i : Nat) (u : Value) : (w.setCell ⟨T, i, none⟩ u).ownsRow B e 1 v n xs :=
  ownsRow_same h fun k hk => Below.heap_setCell _ _ _ _ (fun e' => row_ne h hT he (by have e2 : k = T := e'; rw [← e2]; exact hk))
theorem FactC.gr {nl : Bool} {T : Nat} {t : Tok} {w1 w2 : World} {v : Value} {j : Nat} (hg : Gr w1 w2) (h : FactC nl T t j v w1) : FactC nl T t j v w2 := by
  unfold FactC at h ⊢
  split <;> first | exact h | skip
  · exact ⟨h.1.gr hg, h.2⟩
  · exact ⟨ownsRow_gr h.1 hg, h.2⟩
  · exact h.gr hg
  · exact ownsRow_gr h hg
  · obtain ⟨x3, x5, h1, h2, h3⟩ := h; exact ⟨x3, x5, hg.blk h1, ownsRow_gr h2 hg, h3⟩
  · obtain ⟨x3, x5, h1, h2⟩ := h; exact ⟨x3, x5, hg.blk h1, ownsRow_gr h2 hg⟩
  · trivial
theorem FactC.set3 {nl : Bool} {T : Nat} {t : Tok} {w1 : World} {v u x3 x5 : Value} {j : Nat} (hb : tbk w1 T t x3 x5) (hj : j ≠ 7) (h : FactC nl T t j v w1) : FactC nl T t j v (w1.setCell ⟨T, 3, none⟩ u) := by
  unfold FactC at h ⊢
  split <;> first | exact h | skip
  · exact ⟨hasRow_set hb h.1 (by decide) _ _, h.2⟩
  · exact ⟨own_set hb h.1 (by decide) _ _, h.2⟩
  · exact hasRow_set hb h (by decide) _ _
  · exact own_set hb h (by decide) _ _
  · exact absurd rfl hj
  · obtain ⟨y3, y5, h1, h2⟩ := h; exact ⟨u, y5, h1.set3 u, own_set hb h2 (by decide) _ _⟩
  · trivial
theorem FactC.set5 {nl : Bool} {T : Nat} {t : Tok} {w1 : World} {v u x3 x5 : Value} {j : Nat} (hb : tbk w1 T t x3 x5) (hj : j ≠ 9) (h : FactC nl T t j v w1) : FactC nl T t j v (w1.setCell ⟨T, 5, none⟩ u) := by
  unfold FactC at h ⊢
  split <;> first | exact h | skip
  · exact ⟨hasRow_set hb h.1 (by decide) _ _, h.2⟩
  · exact ⟨own_set hb h.1 (by decide) _ _, h.2⟩
  · exact hasRow_set hb h (by decide) _ _
  · exact own_set hb h (by decide) _ _
  · obtain ⟨y3, y5, h1, h2, h3⟩ := h; exact ⟨y3, u, h1.set5 u, own_set hb h2 (by decide) _ _, h3⟩
  · exact absurd rfl hj
  · trivial
theorem BaseC.gr {nl : Bool} {w0 w1 w2 : World} {T : Nat} {t : Tok} (h : BaseC nl w0 T t w1) (hg : Gr w1 w2) : BaseC nl w0 T t w2 := by
  obtain ⟨h1, h2, h3, x3, x5, h4, h5, h6, h7⟩ := h
  exact ⟨Nat.le_trans h1 hg.size, h2, h3.trans1 (Upd.of_gr hg), x3, x5, hg.blk h4, h5.gr hg, h6.gr hg, h7⟩

/-- What a copy leaves. -/
def CopyTo (nl : Bool) (w : World) (t : Tok) (e : Ending) (w' : World) : Prop := ∃ pv dv, e = .returned (.agg #[.int .i64 t.kind, .int .u8 t.code, .int .u8 t.mark, pv, .string (strOf t.inters), dv]) ∧ w'.ownsRow w.heap.size 3 1 pv t.params.length (icells t.params) ∧
  w'.ownsRow w.heap.size 5 1 dv t.data.length (bcells t.data) ∧ Gr w w' ∧ Nl nl pv
set_option maxRecDepth 100000 in
set_option maxHeartbeats 2000000 in
theorem copy_walk {nl : Bool} {w : World} {t : Tok} {pa da : Option Addr} {pc dc : Nat} (hp : t.params.length ≤ 100000) (hd : t.data.length ≤ 100000) (h : RTok w t (.slice pa t.params.length pc, .slice da t.data.length dc)) (hnl : Nl nl (.slice pa t.params.length pc)) :
    Calls Try.prog 31 #[.agg #[.int .i64 t.kind, .int .u8 t.code, .int .u8 t.mark, .slice pa t.params.length pc, .string (strOf t.inters), .slice da t.data.length dc]] w (CopyTo nl w t) := by
  obtain ⟨W0, hW0⟩ : ∃ W0, W0 = (w.alloc (.cells #[.int .i64 t.kind, .int .u8 t.code, .int .u8 t.mark, .slice pa t.params.length pc, .string (strOf t.inters), .slice da t.data.length dc] 31)).alloc (.cells #[.int .i64 0, .int .u8 0, .int .u8 0, .slice none 0 0, .string ⟨#[]⟩, .slice none 0 0] 31) := ⟨_, rfl⟩
  have hg0 : Gr w W0 := by rw [hW0]; exact ((Gr.refl w).alloc _).alloc _
  have hb0 : tbk W0 w.heap.size t (.slice pa t.params.length pc) (.slice da t.data.length dc) := by
    unfold tbk; rw [hW0]; exact ((Gr.refl _).alloc _).blk (heap_alloc_new w _)
  have hz0 : W0.heap[w.heap.size + 1]? = some (.cells #[.int .i64 0, .int .u8 0, .int .u8 0, .slice none 0 0, .string ⟨#[]⟩, .slice none 0 0] 31 (0, 0)) := by rw [hW0]; exact heap_new2 w _ _
  have hs0 : W0.heap.size = w.heap.size + 2 := by rw [hW0]; simp
  have hB0 : BaseC nl W0 w.heap.size t W0.drew := ⟨by simp [hs0], hs0, Upd.of_gr (Gr.refl W0).drew, _, _, hb0, (h.params.gr hg0).gr (Gr.refl W0).drew, (h.data.gr hg0).gr (Gr.refl W0).drew, hnl⟩
  go_enter Try.func31, Try.ntmps31
  go_wp2_with fail
  rw [← hW0]
  refine wp_region_facts (FactC nl w.heap.size t) (BaseC nl W0 w.heap.size t) (by kernel_rfl) (by kernel_rfl) (by kernel_rfl) hB0 ?_ ?_
  · refine Steps.cons1 1 rfl rfl ?_ (Steps.cons1 2 rfl rfl ?_ (Steps.cons1 3 rfl rfl ?_ (Steps.cons1 4 rfl rfl ?_ (Steps.cons1 5 rfl rfl ?_ (Steps.cons1 6 rfl rfl ?_ (Steps.cons1 7 rfl rfl ?_ (Steps.cons1 8 rfl rfl ?_ (Steps.cons1 9 rfl rfl ?_ (Steps.cons1 10 rfl rfl ?_ (Steps.nil))))))))))
    · (intro ys w' hB hP K hK; simp only [Preds, Region.binds, FactC, forall_const, and_true, true_and] at hP; simp only [fillA]; go_simp; (have h2 := fun v => hK v w' hB); simp only [FactC, forall_eq] at h2; (have h2 := h2 (fun _ _ _ h => h)); simp [fillA, Act.put, hP] at h2; exact h2)
    · (intro ys w' hB hP; simp only [Preds, Region.binds, FactC, forall_const, and_true, true_and] at hP)
      have hB' := hB
      obtain ⟨hB1, hB2, hB3, x3, x5, hB4, hB5, hB6, hB7⟩ := hB'
      have q3 := cell_of_row hB4 3 _ rfl
      obtain ⟨a3, c3, rfl⟩ := hB5.form
      intro K hK
      simp only [fillA]
      go_simp
      have h2 := hK (.slice a3 t.params.length c3) w' hB ⟨hB5, hB7⟩ (fun _ _ _ h => h)
      simp [fillA, Act.put, hP] at h2
      exact h2
    · (intro ys w' hB hP; simp only [Preds, Region.binds, FactC, forall_const, and_true, true_and] at hP)
      obtain ⟨hP, hPn⟩ := hP
      obtain ⟨a3, c3, hy1⟩ := hP.form
      have hP' := hP
      rw [hy1] at hP' hPn
      have hs := hB.1
      intro K hK
      simp only [fillA]
      go_simp
      refine (cloneH_ints hP' hp).mono ?_
      rintro e w1 ⟨v, rfl, hr, hg, hn⟩
      have h2 := hK v w1 (hB.gr hg) ⟨ownsRow_le hs hr, fun e => hn (hPn e)⟩ (fun j u _ h => h.gr hg)
      simp [fillA, Act.put, hy1] at h2
      exact h2
    · (intro ys w' hB hP K hK; simp only [Preds, Region.binds, FactC, forall_const, and_true, true_and] at hP; simp only [fillA]; go_simp; (have h2 := fun v => hK v w' hB); simp only [FactC, forall_eq] at h2; (have h2 := h2 (fun _ _ _ h => h)); simp [fillA, Act.put, hP] at h2; exact h2)
    · (intro ys w' hB hP; simp only [Preds, Region.binds, FactC, forall_const, and_true, true_and] at hP)
      have hB' := hB
      obtain ⟨hB1, hB2, hB3, x3, x5, hB4, hB5, hB6, hB7⟩ := hB'
      have q5 := cell_of_row hB4 5 _ rfl
      obtain ⟨a3, c3, rfl⟩ := hB6.form
      intro K hK
      simp only [fillA]
      go_simp
      have h2 := hK (.slice a3 t.data.length c3) w' hB hB6 (fun _ _ _ h => h)
      simp [fillA, Act.put, hP] at h2
      exact h2
    · (intro ys w' hB hP; simp only [Preds, Region.binds, FactC, forall_const, and_true, true_and] at hP)
      have hP4 : HasRow w' 5 (ys 4) t.data.length (bcells t.data) := by simp only [hP]
      clear hP
      obtain ⟨a3, c3, hy1⟩ := hP4.form
      have hP' := hP4
      rw [hy1] at hP'
      have hs := hB.1
      intro K hK
      simp only [fillA]
      go_simp
      refine (cloneH_bytes hP' hd).mono ?_
      rintro e w1 ⟨v, rfl, hr, hg⟩
      have h2 := hK v w1 (hB.gr hg) (ownsRow_le hs hr) (fun j u _ h => h.gr hg)
      simp [fillA, Act.put, hy1] at h2
      exact h2
    · (intro ys w' hB hP K hK; simp only [Preds, Region.binds, FactC, forall_const, and_true, true_and] at hP; simp only [fillA]; go_simp; (have h2 := fun v => hK v w' hB); simp only [FactC, forall_eq] at h2; (have h2 := h2 (fun _ _ _ h => h)); simp [fillA, Act.put, hP] at h2; exact h2)
    · (intro ys w' hB hP; simp only [Preds, Region.binds, FactC, forall_const, and_true, true_and] at hP)
      obtain ⟨hP1, hP2⟩ : ys 6 = .pointer (some ⟨w.heap.size, 3, none⟩) ∧ (NewI w.heap.size t.params (ys 2) w' ∧ Nl nl (ys 2)) := ⟨by simp [hP], by simp [hP]⟩
      clear hP
      obtain ⟨hP2, hPn⟩ := hP2
      obtain ⟨hB1, hB2, hB3, x3, x5, hB4, hB5, hB6, hB7⟩ := hB
      have q3 := cell_of_row hB4 3 _ rfl
      have qf : ∀ i, w'.frozen? ⟨w.heap.size, i, none⟩ = false := fun i => by unfold tbk at hB4; simp [World.frozen?, hB4]
      obtain ⟨ra, rc, hy⟩ := row_form hP2
      intro K hK
      simp only [fillA]
      go_simp
      have h2 := hK undef (w'.setCell ⟨w.heap.size, 3, none⟩ (ys 2)) ⟨by simpa using hB1, hB2, hB3.trans1 (Upd.of_setCell _ _ _ _), _, _, hB4.set3 _, HasRow.of_own (own_set hB4 hP2 (by decide) _ _), hasRow_set hB4 hB6 (by decide) _ _, hPn⟩ ⟨_, _, hB4.set3 _, own_set hB4 hP2 (by decide) _ _, hPn⟩ (fun j u hj h => h.set3 hB4 hj)
      simp [fillA, Act.put, hP1, hy] at h2
      exact h2
    · (intro ys w' hB hP K hK; simp only [Preds, Region.binds, FactC, forall_const, and_true, true_and] at hP; simp only [fillA]; go_simp; (have h2 := fun v => hK v w' hB); simp only [FactC, forall_eq] at h2; (have h2 := h2 (fun _ _ _ h => h)); simp [fillA, Act.put, hP] at h2; exact h2)
    · (intro ys w' hB hP; simp only [Preds, Region.binds, FactC, forall_const, and_true, true_and] at hP)
      obtain ⟨hP1, hP2⟩ : ys 8 = .pointer (some ⟨w.heap.size, 5, none⟩) ∧ NewB w.heap.size t.data (ys 5) w' := ⟨by simp [hP], by simp [hP]⟩
      clear hP
      obtain ⟨hB1, hB2, hB3, x3, x5, hB4, hB5, hB6, hB7⟩ := hB
      have q5 := cell_of_row hB4 5 _ rfl
      have qf : ∀ i, w'.frozen? ⟨w.heap.size, i, none⟩ = false := fun i => by unfold tbk at hB4; simp [World.frozen?, hB4]
      obtain ⟨ra, rc, hy⟩ := row_form hP2
      intro K hK
      simp only [fillA]
      go_simp
      have h2 := hK undef (w'.setCell ⟨w.heap.size, 5, none⟩ (ys 5)) ⟨by simpa using hB1, hB2, hB3.trans1 (Upd.of_setCell _ _ _ _), _, _, hB4.set5 _, hasRow_set hB4 hB5 (by decide) _ _, HasRow.of_own (own_set hB4 hP2 (by decide) _ _), hB7⟩ ⟨_, _, hB4.set5 _, own_set hB4 hP2 (by decide) _ _⟩ (fun j u hj h => h.set5 hB4 hj)
      simp [fillA, Act.put, hP1, hy] at h2
      exact h2
  · intro ys w' hB hF
    have f7 : ∃ x3 x5, tbk w' w.heap.size t x3 x5 ∧ NewI w.heap.size t.params x3 w' ∧ Nl nl x3 := hF 7 (by decide)
    have f9 : ∃ x3 x5, tbk w' w.heap.size t x3 x5 ∧ NewB w.heap.size t.data x5 w' := hF 9 (by decide)
    clear hF
    obtain ⟨x3, y5, hb1, h3, hnl3⟩ := f7
    obtain ⟨y3, x5, hb2, h5⟩ := f9
    have hxy : y3 = x3 := by
      unfold tbk at hb1 hb2; rw [hb1] at hb2; simp at hb2; exact hb2.1.symm
    subst hxy
    obtain ⟨hB1, hB2, hB3, _⟩ := hB
    obtain ⟨pa', pc', rfl⟩ := row_form h3
    obtain ⟨da', dc', rfl⟩ := row_form h5
    obtain ⟨t0, t1, t2, t3, t4, t5, tf⟩ := cells6 hb2
    have hz1 := (hB3.block (w.heap.size + 1) (by omega) (by simp)).trans hz0
    simp only [fillA, Act.put, List.setIfInBounds_toArray, List.set_cons_succ, List.set_cons_zero, Nat.zero_add, Nat.reduceAdd]
    go_wp2_with (first
      | (refine wpList_store_only rfl 31 _ _ rfl (w.heap.size + 1) #[.int .i64 t.kind, .int .u8 t.code, .int .u8 t.mark, .slice pa' t.params.length pc', .string (strOf t.inters), .slice da' t.data.length dc'] rfl rfl 31 _ hz1 ptok_size rfl (by kernel_rfl) ?_; intro w2 hh2 hu2 hs2; obtain ⟨u0, u1, u2, u3, u4, u5, uf⟩ := cells6 hh2))
    have hG : Gr w w2 := by
      have e1 := hu2; have e2 := hB3
      refine ⟨e1.os.trans (e2.os.trans hg0.os), e1.tape.trans (e2.tape.trans hg0.tape), e1.output.trans (e2.output.trans hg0.output), by omega, fun k hk => ?_⟩
      rw [e1.block k (by omega) (by simp; omega), e2.block k (by omega) (by simp; omega)]
      exact hg0.block k hk
    refine bodyPost_ret (v := .agg #[.int .i64 t.kind, .int .u8 t.code, .int .u8 t.mark, .slice pa' t.params.length pc', .string (strOf t.inters), .slice da' t.data.length dc']) (by simp [results, Try.results31, go_sem, *]) rfl ⟨_, _, rfl, ?_, ?_, hG, hnl3⟩
    · exact ownsRow_le (by omega) (ownsRow_same h3 fun k hk => hu2.block k (ownsRow_blk h3 hk) (by have := ownsRow_base h3 hk; simp; omega))
    · exact ownsRow_le (by omega) (ownsRow_same h5 fun k hk => hu2.block k (ownsRow_blk h5 hk) (by have := ownsRow_base h5 hk; simp; omega))
end Go.Proofs.Ytgbmjlajheeciaa
