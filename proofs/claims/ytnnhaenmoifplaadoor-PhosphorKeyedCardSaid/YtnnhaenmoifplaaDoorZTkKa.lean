/-
  A token's copy: memory of its own.
  A token that can't be has no bytes; what Check and Bytes say of any token.
  A token's copy and bytes as memory that may be written: what the law TokenKeeps needs.
-/
import Derived.Deep.DeepCutAuto
import Derived.Deep.RegionHeld3
import Derived.MakeChecks
import Derived.OneCell
import Derived.Test.YtnnhaenmoifplaaDoorRows
import Derived.Test.YtnnhaenmoifplaaDoorZTkQ
import Derived.Test.YtnnhaenmoifplaaDoorZOrd6
import Derived.Test.YtnnhaenmoifplaaDoorZPdI
import Derived.Test.YtnnhaenmoifplaaDoorZTkP
namespace Go.Proofs.YtnnhaenmoifplaaDoor
set_option linter.unusedSimpArgs false
set_option linter.unusedVariables false
open Go.RowKit
set_option linter.unusedVariables false

theorem ione (l : List Int) : ∀ u ∈ icells l, u.oneCell' = true := by
  intro u hu
  simp only [icells, List.mem_map] at hu
  obtain ⟨c, _, rfl⟩ := hu
  rfl

set_option maxHeartbeats 2000000 in
set_option maxRecDepth 100000 in
theorem cloneW_bytes {n : Nat} {v : Value} {l : List Int} {w : World} (h : HasRow w 5 v n (bcells l)) (hn : n ≤ 140737488355328) :
    Calls Tryd.prog 55 #[v] w fun e w' => ∃ va vc, e = .returned (.slice va n vc) ∧ w'.ownsRow w.heap.size 5 1 (.slice va n vc) n (bcells l) ∧ Gr w w' := by
  have q22 : ∀ (w : World) (a : Option Addr) (n c n' c' : Nat), (binOp .eql 32 (.slice a n c) (.slice none n' c')).run Tryd.prog w = .ok (.bool a.isNone) w := fun w a n c n' c' => Lib.run_eql_slice_nil w _ _ a n c n' c' Tryd.underlying32
  rcases h.2 with ⟨rfl, rfl⟩ | ⟨g, cap, cur, rfl, hh, hnc, hcm, htk⟩
  · have : l = [] := by have := h.1; simp [bcells] at this; exact this
    subst this
    clear h
    go_enter Tryd.func55, Tryd.ntmps55
    go_wp2_with fail
    go_ret
    exact ⟨_, _, rfl, World.ownsRow_nil _ _ _ _, .refl _⟩
  · have hsrc := src_rd (t := 32) bytesT (h.rd_.gr ((Gr.refl w).alloc (.cells #[] 5))) (bcells_oneP l) (cap := cap)
    have hmx : n ≤ maxLen := by unfold maxLen; omega
    have hnw := heap_alloc_new w (.cells #[] 5)
    have hgw := (Gr.refl w).alloc (.cells #[] 5)
    clear h hh htk
    go_enter Tryd.func55, Tryd.ntmps55
    go_wp2_with (at_builtin; refine wpList_new rfl _ _ _ _ rfl 5 _ 1 bytesT u8i rfl w.heap.size rfl hnw _ n (bcells l) rfl hsrc hmx (by omega) ?_; intro va vc w2 hown2 hgx2)
    go_ret
    exact ⟨va, vc, rfl, hown2, hgw.trans hgx2⟩

set_option maxHeartbeats 2000000 in
set_option maxRecDepth 100000 in
theorem cloneW_ints {n : Nat} {v : Value} {l : List Int} {w : World} (h : HasRow w 3 v n (icells l)) (hn : n * 8 ≤ 140737488355328) :
    Calls Tryd.prog 53 #[v] w fun e w' => ∃ va vc, e = .returned (.slice va n vc) ∧ w'.ownsRow w.heap.size 3 1 (.slice va n vc) n (icells l) ∧ Gr w w' := by
  have q22 : ∀ (w : World) (a : Option Addr) (n c n' c' : Nat), (binOp .eql 31 (.slice a n c) (.slice none n' c')).run Tryd.prog w = .ok (.bool a.isNone) w := fun w a n c n' c' => Lib.run_eql_slice_nil w _ _ a n c n' c' Tryd.underlying31
  rcases h.2 with ⟨rfl, rfl⟩ | ⟨g, cap, cur, rfl, hh, hnc, hcm, htk⟩
  · have : l = [] := by have := h.1; simp [icells] at this; exact this
    subst this
    clear h
    go_enter Tryd.func53, Tryd.ntmps53
    go_wp2_with fail
    go_ret
    exact ⟨_, _, rfl, World.ownsRow_nil _ _ _ _, .refl _⟩
  · have hsrc := src_rd (t := 31) intsT (h.rd_.gr ((Gr.refl w).alloc (.cells #[] 3))) (ione l) (cap := cap)
    have hmx : n ≤ maxLen := by unfold maxLen; omega
    have hnw := heap_alloc_new w (.cells #[] 3)
    have hgw := (Gr.refl w).alloc (.cells #[] 3)
    clear h hh htk
    go_enter Tryd.func53, Tryd.ntmps53
    go_wp2_with (at_builtin; refine wpList_new rfl _ _ _ _ rfl 3 _ 8 intsT intI rfl w.heap.size rfl hnw _ n (icells l) rfl hsrc hmx (by omega) ?_; intro va vc w2 hown2 hgx2)
    go_ret
    exact ⟨va, vc, rfl, hown2, hgw.trans hgx2⟩

/-- A row of blocks beyond T, where a cell of T is written. -/
theorem own_cell {w : World} {B e n T o : Nat} {v u : Value} {xs : List Value} (h : w.ownsRow B e 1 v n xs) (hT : T < B) : (w.setCell ⟨T, o, none⟩ u).ownsRow B e 1 v n xs :=
  ownsRow_same h fun k hk => Below.heap_setCell w ⟨T, o, none⟩ u k (by have := ownsRow_base h hk; show k ≠ T; omega)
theorem put6 {w' : World} {g : Nat} {t : TypeId} {u0 u1 u2 u3 u4 u5 : Value} (h : w'.heap[g]? = some (.cells #[u0, u1, u2, u3, u4, u5] t (0, 0))) (v0 v1 v2 v3 v4 v5 : Value) :
    ((((((w'.setCell ⟨g, 0, none⟩ v0).setCell ⟨g, 1, none⟩ v1).setCell ⟨g, 2, none⟩ v2).setCell ⟨g, 3, none⟩ v3).setCell ⟨g, 4, none⟩ v4).setCell ⟨g, 5, none⟩ v5).heap[g]? = some (.cells #[v0, v1, v2, v3, v4, v5] t (0, 0)) ∧ (∀ (B e n : Nat) (v : Value) (xs : List Value), g < B → w'.ownsRow B e 1 v n xs → ((((((w'.setCell ⟨g, 0, none⟩ v0).setCell ⟨g, 1, none⟩ v1).setCell ⟨g, 2, none⟩ v2).setCell ⟨g, 3, none⟩ v3).setCell ⟨g, 4, none⟩ v4).setCell ⟨g, 5, none⟩ v5).ownsRow B e 1 v n xs) ∧ ∀ a : World, a.heap.size ≤ g → Gr a w' → Gr a ((((((w'.setCell ⟨g, 0, none⟩ v0).setCell ⟨g, 1, none⟩ v1).setCell ⟨g, 2, none⟩ v2).setCell ⟨g, 3, none⟩ v3).setCell ⟨g, 4, none⟩ v4).setCell ⟨g, 5, none⟩ v5) :=
  ⟨blk_set (blk_set (blk_set (blk_set (blk_set (blk_set h 0 v0) 1 v1) 2 v2) 3 v3) 4 v4) 5 v5, fun B e n v xs hg h => own_cell (own_cell (own_cell (own_cell (own_cell (own_cell h hg) hg) hg) hg) hg) hg, fun a ha h => (((((h.setCell ha _).setCell ha _).setCell ha _).setCell ha _).setCell ha _).setCell ha _⟩
/-- What is known in Copy's region. -/
def copF (B T : Nat) (v1 : Value) (n1 : Nat) (x1 : List Value) (v2 : Value) (n2 : Nat) (x2 : List Value) : Nat → (Nat → Value) → World → Prop
  | 0, ys, _ => ys 0 = .pointer (some ⟨T, 3, none⟩)
  | 1, ys, _ => ys 1 = v1
  | 2, ys, w' => ∃ va ca, ys 2 = .slice va n1 ca ∧ w'.ownsRow B 3 1 (.slice va n1 ca) n1 x1
  | 3, ys, _ => ys 3 = .pointer (some ⟨T, 5, none⟩)
  | 4, ys, _ => ys 4 = v2
  | 5, ys, w' => ∃ va ca, ys 5 = .slice va n2 ca ∧ w'.ownsRow B 5 1 (.slice va n2 ca) n2 x2
  | 6, ys, _ => ys 6 = .pointer (some ⟨T, 3, none⟩)
  | 7, _, w' => ∃ va ca, w'.cell? ⟨T, 3, none⟩ = some (.slice va n1 ca) ∧ w'.ownsRow B 3 1 (.slice va n1 ca) n1 x1
  | 8, ys, _ => ys 8 = .pointer (some ⟨T, 5, none⟩)
  | 9, _, w' => ∃ va ca, w'.cell? ⟨T, 5, none⟩ = some (.slice va n2 ca) ∧ w'.ownsRow B 5 1 (.slice va n2 ca) n2 x2
  | _, _, _ => True
/-- What holds till an operation is done. -/
def copG (T : Nat) (v1 v2 : Value) : Nat → World → Prop
  | 7, w' => w'.cell? ⟨T, 3, none⟩ = some v1
  | 9, w' => w'.cell? ⟨T, 5, none⟩ = some v2
  | _, _ => True
structure CopB (w : World) (k c m : Int) (s : ByteArray) (w' : World) : Prop where
  gr : Gr w w'
  size : w.heap.size + 2 ≤ w'.heap.size
  box : ∃ x y, w'.heap[w.heap.size]? = some (.cells #[.int .i64 k, .int .u8 c, .int .u8 m, x, .string s, y] 34 (0, 0))
  out : w'.heap[w.heap.size + 1]? = some (.cells #[.int .i64 0, .int .u8 0, .int .u8 0, .slice none 0 0, .string ⟨#[]⟩, .slice none 0 0] 34 (0, 0))
theorem CopB.gr' {w w1 w2 : World} {k c m : Int} {s : ByteArray} (h : CopB w k c m s w1) (hg : Gr w1 w2) : CopB w k c m s w2 := by
  obtain ⟨h1, h2, ⟨x, y, h3⟩, h4⟩ := h
  exact ⟨h1.trans hg, Nat.le_trans h2 hg.size, ⟨x, y, hg.blk h3⟩, hg.blk h4⟩
theorem CopB.set3 {w w1 : World} {k c m : Int} {s : ByteArray} (h : CopB w k c m s w1) (u : Value) : CopB w k c m s (w1.setCell ⟨w.heap.size, 3, none⟩ u) := by
  obtain ⟨h1, h2, ⟨x, y, h3⟩, h4⟩ := h
  exact ⟨h1.setCell (Nat.le_refl _) u, by simpa using h2, ⟨u, y, blk_set h3 3 u⟩, blk_far h4 (by simp) u⟩
theorem CopB.set5 {w w1 : World} {k c m : Int} {s : ByteArray} (h : CopB w k c m s w1) (u : Value) : CopB w k c m s (w1.setCell ⟨w.heap.size, 5, none⟩ u) := by
  obtain ⟨h1, h2, ⟨x, y, h3⟩, h4⟩ := h
  exact ⟨h1.setCell (Nat.le_refl _) u, by simpa using h2, ⟨x, u, blk_set h3 5 u⟩, blk_far h4 (by simp) u⟩
theorem copF.gr {B T n1 n2 : Nat} {v1 v2 : Value} {x1 x2 : List Value} {w1 w2 : World} {j : Nat} {ys : Nat → Value} (h : copF B T v1 n1 x1 v2 n2 x2 j ys w1) (hg : Gr w1 w2) : copF B T v1 n1 x1 v2 n2 x2 j ys w2 := by
  unfold copF at h ⊢
  split <;> first | exact h | skip
  · obtain ⟨va, cap, e, h⟩ := h; exact ⟨va, cap, e, ownsRow_gr h hg⟩
  · obtain ⟨va, cap, e, h⟩ := h; exact ⟨va, cap, e, ownsRow_gr h hg⟩
  · obtain ⟨va, cap, e, h⟩ := h; exact ⟨va, cap, hg.cellAt e, ownsRow_gr h hg⟩
  · obtain ⟨va, cap, e, h⟩ := h; exact ⟨va, cap, hg.cellAt e, ownsRow_gr h hg⟩
  · trivial
theorem copG.gr {T : Nat} {v1 v2 : Value} {w1 w2 : World} {j : Nat} (h : copG T v1 v2 j w1) (hg : Gr w1 w2) : copG T v1 v2 j w2 := by
  unfold copG at h ⊢
  split <;> first | exact hg.cellAt h | trivial
theorem cell_off {w : World} {T i j : Nat} {u v : Value} (h : w.cell? ⟨T, i, none⟩ = some v) (hij : j ≠ i) : (w.setCell ⟨T, j, none⟩ u).cell? ⟨T, i, none⟩ = some v := by
  exact (World.cell?_setCell_other w ⟨T, j, none⟩ ⟨T, i, none⟩ u (fun e => hij (congrArg Addr.off e))).trans h
theorem copF.set {B T o n1 n2 : Nat} {v1 v2 u : Value} {x1 x2 : List Value} {w1 : World} {j : Nat} {ys : Nat → Value} (h : copF B T v1 n1 x1 v2 n2 x2 j ys w1) (hT : T < B) (h7 : j = 7 → o ≠ 3) (h9 : j = 9 → o ≠ 5) : copF B T v1 n1 x1 v2 n2 x2 j ys (w1.setCell ⟨T, o, none⟩ u) := by
  unfold copF at h ⊢
  split <;> first | exact h | skip
  · obtain ⟨va, cap, e, h⟩ := h; exact ⟨va, cap, e, own_cell h hT⟩
  · obtain ⟨va, cap, e, h⟩ := h; exact ⟨va, cap, e, own_cell h hT⟩
  · obtain ⟨va, cap, e, h⟩ := h; exact ⟨va, cap, cell_off e (h7 rfl), own_cell h hT⟩
  · obtain ⟨va, cap, e, h⟩ := h; exact ⟨va, cap, cell_off e (h9 rfl), own_cell h hT⟩
  · trivial
theorem copG.set {T o : Nat} {v1 v2 u : Value} {w1 : World} {j : Nat} (h : copG T v1 v2 j w1) (h7 : j = 7 → o ≠ 3) (h9 : j = 9 → o ≠ 5) : copG T v1 v2 j (w1.setCell ⟨T, o, none⟩ u) := by
  unfold copG at h ⊢
  split <;> first | exact cell_off h (h7 rfl) | exact cell_off h (h9 rfl) | trivial

set_option maxRecDepth 100000 in
set_option maxHeartbeats 2000000 in
theorem copy_walk {w : World} {k c m : Int} {s : ByteArray} {a1 a2 : Option Addr} {n1 c1 n2 c2 : Nat} {ps d : List Int} (h1 : HasRow w 3 (.slice a1 n1 c1) n1 (icells ps)) (h2 : HasRow w 5 (.slice a2 n2 c2) n2 (bcells d)) (b1 : n1 * 8 ≤ 140737488355328) (b2 : n2 ≤ 140737488355328) :
    Calls Tryd.prog 46 #[.agg #[.int .i64 k, .int .u8 c, .int .u8 m, .slice a1 n1 c1, .string s, .slice a2 n2 c2]] w fun e w' => ∃ va ca vb cb, e = .returned (.agg #[.int .i64 k, .int .u8 c, .int .u8 m, .slice va n1 ca, .string s, .slice vb n2 cb]) ∧ w'.ownsRow w.heap.size 3 1 (.slice va n1 ca) n1 (icells ps) ∧ w'.ownsRow w.heap.size 5 1 (.slice vb n2 cb) n2 (bcells d) ∧ Gr w w' := by
  obtain ⟨v1, hv1⟩ : ∃ v1, v1 = Value.slice a1 n1 c1 := ⟨_, rfl⟩
  obtain ⟨v2, hv2⟩ : ∃ v2, v2 = Value.slice a2 n2 c2 := ⟨_, rfl⟩
  rw [← hv1, ← hv2]
  rw [← hv1] at h1
  rw [← hv2] at h2
  have o1 : v1.oneCell' = true := by rw [hv1]; rfl
  have o2 : v2.oneCell' = true := by rw [hv2]; rfl
  clear hv1 hv2
  have hbox := ((Gr.refl (w.alloc (.cells #[.int .i64 k, .int .u8 c, .int .u8 m, v1, .string s, v2] 34))).alloc (.cells #[.int .i64 0, .int .u8 0, .int .u8 0, .slice none 0 0, .string ⟨#[]⟩, .slice none 0 0] 34)).blk (heap_alloc_new w (.cells #[.int .i64 k, .int .u8 c, .int .u8 m, v1, .string s, v2] 34))
  have hout := heap_new2 w (.cells #[.int .i64 k, .int .u8 c, .int .u8 m, v1, .string s, v2] 34) (.cells #[.int .i64 0, .int .u8 0, .int .u8 0, .slice none 0 0, .string ⟨#[]⟩, .slice none 0 0] 34)
  have hgw := ((Gr.refl w).alloc (.cells #[.int .i64 k, .int .u8 c, .int .u8 m, v1, .string s, v2] 34)).alloc (.cells #[.int .i64 0, .int .u8 0, .int .u8 0, .slice none 0 0, .string ⟨#[]⟩, .slice none 0 0] 34)
  go_enter Tryd.func46, Tryd.ntmps46
  go_upto_region 1 with (fail)
  obtain ⟨wb, hwb⟩ : ∃ wb, wb = (w.alloc (.cells #[.int .i64 k, .int .u8 c, .int .u8 m, v1, .string s, v2] 34)).alloc (.cells #[.int .i64 0, .int .u8 0, .int .u8 0, .slice none 0 0, .string ⟨#[]⟩, .slice none 0 0] 34) := ⟨_, rfl⟩
  rw [← hwb] at hbox hout hgw ⊢
  have hbz : w.heap.size + 2 ≤ wb.heap.size := by rw [hwb]; simp
  clear hwb
  obtain ⟨t0, t1, t2, t3, t4, t5, tf⟩ := cells6 hbox
  refine wp_region_facts7 (copF (w.heap.size + 2) w.heap.size v1 n1 (icells ps) v2 n2 (bcells d)) (fun _ _ _ _ => True) (fun _ _ => false) (copG w.heap.size v1 v2) (CopB w k c m s) (by kernel_rfl) (by kernel_rfl) (by kernel_rfl) ?_ ⟨hgw.drew, by simpa using hbz, ⟨v1, v2, (Gr.refl wb).drew.blk hbox⟩, (Gr.refl wb).drew.blk hout⟩ (fun j => by
    refine copG.gr ?_ ((Gr.refl wb).drew)
    unfold copG
    split <;> first | exact t3 | exact t5 | trivial) ?_ ?_
  · intro j o ho ys zs w' hj he hF
    unfold copF at hF ⊢
    split at hF <;> first | (simp only [← hj]; exact hF) | exact hF | trivial
  · refine Steps7.cons1 1 rfl rfl ?_ (Steps7.cons1 2 rfl rfl ?_ (Steps7.cons1 3 rfl rfl ?_ (Steps7.cons1 4 rfl rfl ?_ (Steps7.cons1 5 rfl rfl ?_ (Steps7.cons1 6 rfl rfl ?_ (Steps7.cons1 7 rfl rfl ?_ (Steps7.cons1 8 rfl rfl ?_ (Steps7.cons1 9 rfl rfl ?_ (Steps7.cons1 10 rfl rfl ?_ (Steps7.nil))))))))))
    · (intro L ys w' hB hD hP hn; simp only [LAll, Region.binds, forall_const, and_true, true_and] at hP)
      intro K hK
      simp only [fillA]
      go_simp
      have h2 := hK (.pointer (some ⟨w.heap.size, 3, none⟩)) w' hB (setY_at ys 0 _) (fun j _ _ h => h) (fun j _ _ h => h) (fun j _ => ⟨fun _ => trivial, fun _ => trivial⟩)
      simp [fillA, Act.put] at h2
      exact h2
    · (intro L ys w' hB hD hP hn; simp only [LAll, Region.binds, forall_const, and_true, true_and] at hP)
      have f0 : ys 0 = .pointer (some ⟨w.heap.size, 3, none⟩) := hD.fact 0 (by first | exact hP | exact hP.1 | exact hP.2.1 | exact hP.2.2.1 | exact hP.2.2.2.1 | exact hP.2.2.2.2 | exact hP.2 | exact hP.2.2 | exact hP.2.2.2) (fun _ _ => rfl)
      have q3 : w'.cell? ⟨w.heap.size, 3, none⟩ = some v1 := hD.yet 7 (fun h => hn (hD.back 2 _ (hD.back 7 _ h rfl ⟨2, .data⟩ (by simp) rfl) rfl ⟨1, .data⟩ (by simp) rfl))
      intro K hK
      simp only [fillA]
      go_simp
      have h2 := hK v1 w' hB (setY_at ys 1 _) (fun j _ _ h => h) (fun j _ _ h => h) (fun j _ => ⟨fun _ => trivial, fun _ => trivial⟩)
      simp [fillA, Act.put, f0] at h2
      exact h2
    · (intro L ys w' hB hD hP hn; simp only [LAll, Region.binds, forall_const, and_true, true_and] at hP)
      have f1 : ys 1 = v1 := hD.fact 1 (by first | exact hP | exact hP.1 | exact hP.2.1 | exact hP.2.2.1 | exact hP.2.2.2.1 | exact hP.2.2.2.2 | exact hP.2 | exact hP.2.2 | exact hP.2.2.2) (fun _ _ => rfl)
      intro K hK
      simp only [fillA]
      go_simp
      have hcon := cloneW_ints (h1.gr hB.gr) b1
      (with_reducible refine hcon.mono ?_)
      clear hcon
      rintro e w4 ⟨va, ca, rfl, hO, hg⟩
      have h2 := hK (.slice va n1 ca) w4 (hB.gr' hg) ⟨va, ca, setY_at ys 2 _, hO.mono hB.size⟩ (fun j _ _ h => h.gr hg) (fun j _ _ h => h.gr hg) (fun j _ => ⟨fun _ => trivial, fun _ => trivial⟩)
      simp [fillA, Act.put, f1] at h2
      exact h2
    · (intro L ys w' hB hD hP hn; simp only [LAll, Region.binds, forall_const, and_true, true_and] at hP)
      intro K hK
      simp only [fillA]
      go_simp
      have h2 := hK (.pointer (some ⟨w.heap.size, 5, none⟩)) w' hB (setY_at ys 3 _) (fun j _ _ h => h) (fun j _ _ h => h) (fun j _ => ⟨fun _ => trivial, fun _ => trivial⟩)
      simp [fillA, Act.put] at h2
      exact h2
    · (intro L ys w' hB hD hP hn; simp only [LAll, Region.binds, forall_const, and_true, true_and] at hP)
      have f3 : ys 3 = .pointer (some ⟨w.heap.size, 5, none⟩) := hD.fact 3 (by first | exact hP | exact hP.1 | exact hP.2.1 | exact hP.2.2.1 | exact hP.2.2.2.1 | exact hP.2.2.2.2 | exact hP.2 | exact hP.2.2 | exact hP.2.2.2) (fun _ _ => rfl)
      have q5 : w'.cell? ⟨w.heap.size, 5, none⟩ = some v2 := hD.yet 9 (fun h => hn (hD.back 5 _ (hD.back 9 _ h rfl ⟨5, .data⟩ (by simp) rfl) rfl ⟨4, .data⟩ (by simp) rfl))
      intro K hK
      simp only [fillA]
      go_simp
      have h2 := hK v2 w' hB (setY_at ys 4 _) (fun j _ _ h => h) (fun j _ _ h => h) (fun j _ => ⟨fun _ => trivial, fun _ => trivial⟩)
      simp [fillA, Act.put, f3] at h2
      exact h2
    · (intro L ys w' hB hD hP hn; simp only [LAll, Region.binds, forall_const, and_true, true_and] at hP)
      have f4 : ys 4 = v2 := hD.fact 4 (by first | exact hP | exact hP.1 | exact hP.2.1 | exact hP.2.2.1 | exact hP.2.2.2.1 | exact hP.2.2.2.2 | exact hP.2 | exact hP.2.2 | exact hP.2.2.2) (fun _ _ => rfl)
      intro K hK
      simp only [fillA]
      go_simp
      have hcon := cloneW_bytes (h2.gr hB.gr) b2
      (with_reducible refine hcon.mono ?_)
      clear hcon
      rintro e w4 ⟨va, ca, rfl, hO, hg⟩
      have h2 := hK (.slice va n2 ca) w4 (hB.gr' hg) ⟨va, ca, setY_at ys 5 _, hO.mono hB.size⟩ (fun j _ _ h => h.gr hg) (fun j _ _ h => h.gr hg) (fun j _ => ⟨fun _ => trivial, fun _ => trivial⟩)
      simp [fillA, Act.put, f4] at h2
      exact h2
    · (intro L ys w' hB hD hP hn; simp only [LAll, Region.binds, forall_const, and_true, true_and] at hP)
      intro K hK
      simp only [fillA]
      go_simp
      have h2 := hK (.pointer (some ⟨w.heap.size, 3, none⟩)) w' hB (setY_at ys 6 _) (fun j _ _ h => h) (fun j _ _ h => h) (fun j _ => ⟨fun _ => trivial, fun _ => trivial⟩)
      simp [fillA, Act.put] at h2
      exact h2
    · (intro L ys w' hB hD hP hn; simp only [LAll, Region.binds, forall_const, and_true, true_and] at hP)
      have f6 : ys 6 = .pointer (some ⟨w.heap.size, 3, none⟩) := hD.fact 6 (by first | exact hP | exact hP.1 | exact hP.2.1 | exact hP.2.2.1 | exact hP.2.2.2.1 | exact hP.2.2.2.2 | exact hP.2 | exact hP.2.2 | exact hP.2.2.2) (fun _ _ => rfl)
      obtain ⟨va, ca, f2, hr⟩ : ∃ va ca, ys 2 = .slice va n1 ca ∧ w'.ownsRow (w.heap.size + 2) 3 1 (.slice va n1 ca) n1 (icells ps) := hD.fact 2 (by first | exact hP | exact hP.1 | exact hP.2.1 | exact hP.2.2.1 | exact hP.2.2.2.1 | exact hP.2.2.2.2 | exact hP.2 | exact hP.2.2 | exact hP.2.2.2) (fun _ _ => rfl)
      obtain ⟨x, y, hb⟩ := hB.box
      obtain ⟨q0, q1, q2, q3, q4, q5, qf⟩ := cells6 hb
      have hset := blk_set hb 3 (.slice va n1 ca)
      intro K hK
      simp only [fillA]
      go_simp
      have h2 := hK undef (w'.setCell ⟨w.heap.size, 3, none⟩ (.slice va n1 ca)) (hB.set3 _) ⟨va, ca, by simp [World.cell?, hset], own_cell hr (by omega)⟩ (fun j hl _ h => h.set (by omega) (fun e => absurd hl (e ▸ hn)) (fun e => by decide)) (fun j _ hne h => h.set (fun e => absurd e hne) (fun e => by decide)) (fun j _ => ⟨fun _ => trivial, fun _ => trivial⟩)
      simp [fillA, Act.put, f6, f2, q3, q5, qf] at h2 ⊢
      exact h2
    · (intro L ys w' hB hD hP hn; simp only [LAll, Region.binds, forall_const, and_true, true_and] at hP)
      intro K hK
      simp only [fillA]
      go_simp
      have h2 := hK (.pointer (some ⟨w.heap.size, 5, none⟩)) w' hB (setY_at ys 8 _) (fun j _ _ h => h) (fun j _ _ h => h) (fun j _ => ⟨fun _ => trivial, fun _ => trivial⟩)
      simp [fillA, Act.put] at h2
      exact h2
    · (intro L ys w' hB hD hP hn; simp only [LAll, Region.binds, forall_const, and_true, true_and] at hP)
      have f8 : ys 8 = .pointer (some ⟨w.heap.size, 5, none⟩) := hD.fact 8 (by first | exact hP | exact hP.1 | exact hP.2.1 | exact hP.2.2.1 | exact hP.2.2.2.1 | exact hP.2.2.2.2 | exact hP.2 | exact hP.2.2 | exact hP.2.2.2) (fun _ _ => rfl)
      obtain ⟨va, ca, f5, hr⟩ : ∃ va ca, ys 5 = .slice va n2 ca ∧ w'.ownsRow (w.heap.size + 2) 5 1 (.slice va n2 ca) n2 (bcells d) := hD.fact 5 (by first | exact hP | exact hP.1 | exact hP.2.1 | exact hP.2.2.1 | exact hP.2.2.2.1 | exact hP.2.2.2.2 | exact hP.2 | exact hP.2.2 | exact hP.2.2.2) (fun _ _ => rfl)
      obtain ⟨x, y, hb⟩ := hB.box
      obtain ⟨q0, q1, q2, q3, q4, q5, qf⟩ := cells6 hb
      have hset := blk_set hb 5 (.slice va n2 ca)
      intro K hK
      simp only [fillA]
      go_simp
      have h2 := hK undef (w'.setCell ⟨w.heap.size, 5, none⟩ (.slice va n2 ca)) (hB.set5 _) ⟨va, ca, by simp [World.cell?, hset], own_cell hr (by omega)⟩ (fun j hl _ h => h.set (by omega) (fun e => by decide) (fun e => absurd hl (e ▸ hn))) (fun j _ hne h => h.set (fun e => by decide) (fun e => absurd e hne)) (fun j _ => ⟨fun _ => trivial, fun _ => trivial⟩)
      simp [fillA, Act.put, f8, f5, q3, q5, qf] at h2 ⊢
      exact h2
  · intro ys w' hB hF _
    obtain ⟨va, ca, g3, r3⟩ : ∃ va ca, w'.cell? ⟨w.heap.size, 3, none⟩ = some (.slice va n1 ca) ∧ w'.ownsRow (w.heap.size + 2) 3 1 (.slice va n1 ca) n1 (icells ps) := hF 7 (by decide) (fun _ _ => rfl)
    obtain ⟨vb, cb, g5, r5⟩ : ∃ va ca, w'.cell? ⟨w.heap.size, 5, none⟩ = some (.slice va n2 ca) ∧ w'.ownsRow (w.heap.size + 2) 5 1 (.slice va n2 ca) n2 (bcells d) := hF 9 (by decide) (fun _ _ => rfl)
    clear hF
    obtain ⟨hg, hz, ⟨x, y, hb⟩, ho⟩ := hB
    obtain ⟨q0, q1, q2, q3, q4, q5, qf⟩ := cells6 hb
    rw [g3] at q3
    rw [g5] at q5
    injection q3 with q3
    injection q5 with q5
    subst q3
    subst q5
    clear g3 g5 q0 q1 q2 q4 qf t0 t1 t2 t3 t4 t5 tf
    obtain ⟨q0, q1, q2, q3, q4, q5, qf⟩ := cells6 hb
    obtain ⟨p0, p1, p2, p3, p4, p5, pf⟩ := cells6 ho
    simp only [fillA]
    go_wp2_with fail
    have hp := put6 ho (.int .i64 k) (.int .u8 c) (.int .u8 m) (.slice va n1 ca) (.string s) (.slice vb n2 cb)
    obtain ⟨w6, hw6⟩ : ∃ w6, w6 = (((((w'.setCell ⟨w.heap.size + 1, 0, none⟩ (.int .i64 k)).setCell ⟨w.heap.size + 1, 1, none⟩ (.int .u8 c)).setCell ⟨w.heap.size + 1, 2, none⟩ (.int .u8 m)).setCell ⟨w.heap.size + 1, 3, none⟩ (.slice va n1 ca)).setCell ⟨w.heap.size + 1, 4, none⟩ (.string s)).setCell ⟨w.heap.size + 1, 5, none⟩ (.slice vb n2 cb) := ⟨_, rfl⟩
    rw [← hw6] at hp ⊢
    obtain ⟨hp1, hp2, hp3⟩ := hp
    clear hw6
    have hg6 := hp3 w (by omega) hg
    have e1 := World.ownsRow.mono (hp2 _ _ _ _ _ (by omega) r3) (Nat.le_add_right w.heap.size 2)
    have e2 := World.ownsRow.mono (hp2 _ _ _ _ _ (by omega) r5) (Nat.le_add_right w.heap.size 2)
    clear hp2 hp3 hb ho p0 p1 p2 p3 p4 p5 pf q0 q1 q2 q3 q4 q5 qf
    obtain ⟨t0, t1, t2, t3, t4, t5, tf⟩ := cells6 hp1
    refine bodyPost_ret (v := .agg #[.int .i64 k, .int .u8 c, .int .u8 m, .slice va n1 ca, .string s, .slice vb n2 cb]) (by simp [results, Tryd.results46, go_sem, Act.put, t0, t1, t2, t3, t4, t5]) (by simp [Act.put]) ?_
    exact ⟨va, ca, vb, cb, rfl, e1, e2, hg6⟩
end Go.Proofs.YtnnhaenmoifplaaDoor

namespace Go.Proofs.YtnnhaenmoifplaaDoor
set_option linter.unusedSimpArgs false
set_option linter.unusedVariables false
open Go.RowKit
set_option linter.unusedVariables false

set_option maxRecDepth 100000 in
set_option maxHeartbeats 1000000 in
theorem bytes_no {w : World} {k c m : Int} {s : ByteArray} {a1 a2 : Option Addr} {n1 c1 n2 c2 : Nat} (eight : Bool) (r : Int) (hr : r ≠ 0)
    (hck : ∀ w', Gr w w' → Calls Tryd.prog 48 #[.agg #[.int .i64 k, .int .u8 c, .int .u8 m, .slice a1 n1 c1, .string s, .slice a2 n2 c2]] w' fun e w2 => e = .returned (.int .i64 r) ∧ Gr w' w2) :
    Calls Tryd.prog 39 #[.agg #[.int .i64 k, .int .u8 c, .int .u8 m, .slice a1 n1 c1, .string s, .slice a2 n2 c2], .bool eight] w fun e w' => e = .returned (.tuple #[.slice none 0 0, .int .i64 r]) ∧ Gr w w' := by
  have hb0 := heap_alloc_new w (.cells #[.int .i64 k, .int .u8 c, .int .u8 m, .slice a1 n1 c1, .string s, .slice a2 n2 c2] 34)
  have hw0 := (Gr.refl w).alloc (.cells #[.int .i64 k, .int .u8 c, .int .u8 m, .slice a1 n1 c1, .string s, .slice a2 n2 c2] 34)
  have hrb : (r != 0) = true := by simpa using hr
  go_enter Tryd.func39, Tryd.ntmps39
  go_wp2_with (go_at_call 48; (with_reducible refine (hck _ hw0).mono ?_); rintro e w2 ⟨rfl, hg2⟩; have hw2 := hw0.trans hg2; obtain ⟨t0, t1, t2, t3, t4, t5, tf⟩ := cells6 (hg2.blk hb0))
  go_ret2
  exact ⟨rfl, hw2⟩
theorem bytes_none {w : World} {t : Tok} {q : Value × Value} (hr : TRange t) (h : RTok w t q) (hn : checkR t ≠ 0) (eight : Bool) :
    Calls Tryd.prog 39 #[.agg (tcells t q).toArray, .bool eight] w fun e w' => e = .returned (.tuple #[.slice none 0 0, .int .i64 (checkR t)]) ∧ Gr w w' := by
  have hck := fun w' (hg : Gr w w') => check_any hr (h.gr hg)
  obtain ⟨qp, qd⟩ := q
  obtain ⟨a1, c1, hv1⟩ := h.params.form
  obtain ⟨a2, c2, hv2⟩ := h.data.form
  simp only at hv1 hv2
  subst hv1; subst hv2
  exact bytes_no eight _ hn hck
theorem RTok.rd {w : World} {t : Tok} {q : Value × Value} (h : RTok w t q) (h3 : t.inters.length ≤ 9223372036854775807) : ∃ a1 c1 a2 c2, q = (.slice a1 t.params.length c1, .slice a2 t.data.length c2) ∧ (t.params.length ≤ 9223372036854775807 → t.data.length ≤ 9223372036854775807 → RdTok w t a1 t.params.length a2 t.data.length) := by
  obtain ⟨qp, qd⟩ := q
  obtain ⟨a1, c1, hv1⟩ := h.params.form
  obtain ⟨a2, c2, hv2⟩ := h.data.form
  simp only at hv1 hv2
  subst hv1; subst hv2
  exact ⟨a1, c1, a2, c2, rfl, fun h1 h2 => ⟨(h.params.rdi).1, (h.data.rdi).1, h1, h2, h3⟩⟩
end Go.Proofs.YtnnhaenmoifplaaDoor

namespace Go.Proofs.YtnnhaenmoifplaaDoor
set_option linter.unusedSimpArgs false
set_option linter.unusedVariables false
open Go.RowKit
set_option linter.unusedVariables false

/-- An element of a row of the call's own is written. -/
theorem own_put {w : World} {B e n c g j : Nat} {xs : List Value} {u : Value} (h : w.ownsRow B e 1 (.slice (some ⟨g, 0, none⟩) n c) n xs) (hj : j < n) : (w.setCell ⟨g, j, none⟩ u).ownsRow B e 1 (.slice (some ⟨g, 0, none⟩) n c) n (xs.set j u) := by
  obtain ⟨h1, h2⟩ := h
  refine ⟨by simpa using h1, ?_⟩
  rcases h2 with ⟨h2, _⟩ | ⟨g', cap, cur, hv, hg, hh, hn, hm, hs, ht⟩
  · cases h2
  · injection hv with e1 _ e3
    injection e1 with e1
    injection e1 with e1
    subst e1
    subst e3
    refine .inr ⟨g, c, cur.setIfInBounds j u, rfl, hg, blk_set hh j u, hn, hm, by simpa using hs, ?_⟩
    rw [← ht, Array.toList_setIfInBounds, List.take_set]
/-- What an element of such a row holds; that it may be written. -/
theorem own_cellAt {w : World} {B e n c g j : Nat} {xs : List Value} (h : w.ownsRow B e 1 (.slice (some ⟨g, 0, none⟩) n c) n xs) {v : Value} (hv : xs[j]? = some v) : w.cell? ⟨g, j, none⟩ = some v ∧ w.frozen? ⟨g, j, none⟩ = false := by
  have h1 := h.cells (g := g) rfl j v hv
  have ea : (⟨g, 0, none⟩ : Addr).add j = ⟨g, j, none⟩ := by rcases j with _ | j <;> simp [Addr.add]
  refine ⟨by rw [← ea]; simpa using h1, ?_⟩
  rcases h.2 with ⟨h2, _⟩ | ⟨g', cap, cur, hv, hg, hh, r⟩
  · cases h2
  · injection hv with e1 _ e3
    injection e1 with e1
    injection e1 with e1
    subst e1
    simp [World.frozen?, hh]
theorem icells_set {l : List Int} {j : Nat} {x : Int} : (icells l).set j (.int .i64 x) = icells (l.set j x) := by simp [icells, List.map_set]
end Go.Proofs.YtnnhaenmoifplaaDoor
