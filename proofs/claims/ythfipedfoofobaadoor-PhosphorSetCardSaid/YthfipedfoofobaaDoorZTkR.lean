/-
  A sequence's id, in both texts.
-/
import Derived.Test.YthfipedfoofobaaDoorZOrd7
import Derived.Test.YthfipedfoofobaaDoorZTkQ
namespace Go.Proofs.YthfipedfoofobaaDoor
set_option linter.unusedSimpArgs false
set_option linter.unusedVariables false
open Go.RowKit
set_option linter.unusedVariables false

/-- What kind of function it is. -/
def idR (k c m : Int) (l : List Int) : List Int := if k < 3 ∨ 5 < k then [] else (if m = 0 then [] else [m]) ++ (l ++ [c])
theorem idR_off {k c m : Int} {l : List Int} (h : k < 3 ∨ 5 < k) : idR k c m l = [] := if_pos h
theorem idR_zero {k c : Int} {l : List Int} (h : ¬ k < 3) (h5 : ¬ 5 < k) : idR k c 0 l = l ++ [c] := by unfold idR; rw [if_neg (by omega)]; rfl
theorem idR_mark {k c m : Int} {l : List Int} (h : ¬ k < 3) (h5 : ¬ 5 < k) (hm : m ≠ 0) : idR k c m l = [m] ++ (l ++ [c]) := by unfold idR; rw [if_neg (by omega), if_neg hm]
theorem conv_own8 {w : World} {B n : Nat} {v : Value} {xs : List Value} {l : List Int} (h : w.ownsRow B 5 1 v n xs) (hx : xs = bcells l) : (convert 50 9 v).run Tryd.prog w = .ok (.string (strOf l)) w := by
  subst hx; exact conv_row (HasRow.of_own h)
theorem wp_conv {P : Program} {u : Oper} {a : Act} {w : World} {K : Act → World → Prop} {Q : Exit → Act → World → Prop} (x : Operand) (src dst : TypeId) (hu : u.op = .convert src dst x) (v : Value) (hx : a.eval x = v) (r : Value) (hr : (convert src dst v).run P w = .ok r w)
    (H : K (a.put u.dst r) w) : u.wp P a w K Q := by
  unfold Oper.wp execOp
  simp only [hu, hx, Sem.run_bind, hr, Result.andThen_ok, Sem.run_pure]
  exact H
theorem grown_blk {w w' : World} {v : Option Nat} {g : Nat} {b : Obj} (h : w.grownBy w' v) (hne : some g ≠ v) (hb : w.heap[g]? = some b) : w'.heap[g]? = some b := by
  rw [h.block g (Array.getElem?_eq_some_iff.1 hb).1 hne]; exact hb
/-- What is known in Id's last region. -/
def idF (B T R : Nat) (v0 : Value) (n0 nl : Nat) (x0 xl : List Value) (c : Int) (s r : ByteArray) : Nat → (Nat → Value) → World → Prop
  | 0, ys, _ => ys 0 = v0
  | 1, ys, _ => ys 1 = .pointer (some ⟨T, 4, none⟩)
  | 2, ys, _ => ys 2 = .string s
  | 3, ys, w' => ∃ va cap, ys 3 = .slice va (n0 + nl) cap ∧ w'.ownsRow B 5 1 (.slice va (n0 + nl) cap) (n0 + nl) (x0 ++ xl)
  | 4, ys, _ => ys 4 = .pointer (some ⟨T, 1, none⟩)
  | 5, ys, _ => ys 5 = .int .u8 c
  | 6, ys, w' => ∃ g, ys 6 = .slice (some ⟨g, 0, none⟩) 1 1 ∧ R ≤ g ∧ w'.heap[g]? = some (.cells #[.int .u8 c] 5 (0, 0))
  | 7, ys, w' => ∃ va cap, ys 7 = .slice va (n0 + nl + 1) cap ∧ w'.ownsRow B 5 1 (.slice va (n0 + nl + 1) cap) (n0 + nl + 1) (x0 ++ xl ++ [Value.int .u8 c])
  | 8, ys, _ => ys 8 = .string r
  | 9, ys, _ => ys 9 = .string r
  | _, _, _ => True
/-- What an operation ends. -/
def idD (i j : Nat) : Bool := i == 7 && (j == 3 || j == 6)
/-- What holds till an operation is done. -/
def idG (B : Nat) (v0 : Value) (n0 : Nat) (x0 : List Value) : Nat → World → Prop
  | 3, w' => w'.ownsRow B 5 1 v0 n0 x0
  | _, _ => True
theorem idG.gr {B n0 : Nat} {v0 : Value} {x0 : List Value} {w1 w2 : World} {j : Nat} (h : idG B v0 n0 x0 j w1) (hg : Gr w1 w2) : idG B v0 n0 x0 j w2 := by
  unfold idG at h ⊢
  split <;> first | exact ownsRow_gr h hg | trivial
theorem idG.no {B n0 : Nat} {v0 : Value} {x0 : List Value} {w2 : World} {j : Nat} (h : j ≠ 3) : idG B v0 n0 x0 j w2 := by
  unfold idG
  split <;> first | exact absurd rfl h | trivial
theorem idF.gr {B T R n0 nl : Nat} {v0 : Value} {x0 xl : List Value} {c : Int} {s r : ByteArray} {w1 w2 : World} {j : Nat} {ys : Nat → Value} (h : idF B T R v0 n0 nl x0 xl c s r j ys w1) (hg : Gr w1 w2) : idF B T R v0 n0 nl x0 xl c s r j ys w2 := by
  unfold idF at h ⊢
  split <;> first | exact h | skip
  · obtain ⟨va, cap, e, h⟩ := h; exact ⟨va, cap, e, ownsRow_gr h hg⟩
  · obtain ⟨g, e, hb, h⟩ := h; exact ⟨g, e, hb, hg.blk h⟩
  · obtain ⟨va, cap, e, h⟩ := h; exact ⟨va, cap, e, ownsRow_gr h hg⟩
  · trivial
theorem idF.grown {B T R n0 nl : Nat} {v0 v : Value} {x0 xl : List Value} {c : Int} {s r : ByteArray} {w1 w2 : World} {j : Nat} {ys : Nat → Value} (h : idF B T R v0 n0 nl x0 xl c s r j ys w1) (h3 : j ≠ 3) (h7 : j ≠ 7) (hg : w1.grownBy w2 v.ownBlock) (hv : j = 6 → ∀ k, v.ownBlock = some k → k < R) : idF B T R v0 n0 nl x0 xl c s r j ys w2 := by
  unfold idF at h ⊢
  split <;> first | exact h | skip
  · exact absurd rfl h3
  · obtain ⟨g, e, hb, h⟩ := h
    exact ⟨g, e, hb, grown_blk hg (fun e => by have := hv rfl g e.symm; omega) h⟩
  · exact absurd rfl h7
  · trivial
/-- What Id gives. -/
def IdOut (w : World) (l : List Int) (e : Ending) (w' : World) : Prop := e = .returned (.string (strOf l)) ∧ Gr w w'

set_option maxRecDepth 100000 in
set_option maxHeartbeats 2000000 in
theorem id_off {w : World} {k c m : Int} {l : List Int} {a1 a2 : Option Addr} {n1 c1 n2 c2 : Nat} (h : k < 3 ∨ 5 < k) :
    Calls Tryd.prog 7 #[.agg #[.int .i64 k, .int .u8 c, .int .u8 m, .slice a1 n1 c1, .string (strOf l), .slice a2 n2 c2]] w (IdOut w (idR k c m l)) := by
  rw [idR_off h]
  by_cases h1 : k < 3
  · clear h
    go_enter Tryd.func7, Tryd.ntmps7
    go_wp2_with fail
    go_ret
    exact ⟨rfl, by (repeat (first | with_reducible exact Gr.refl _ | with_reducible assumption | with_reducible refine Gr.setCell ?_ (by simp; try omega) _ | with_reducible refine Gr.alloc ?_ _ | with_reducible refine Gr.drew ?_ | with_reducible refine Gr.drewN ?_ _ | with_reducible refine Gr.trans ?_ (by assumption)))⟩
  · have h2 : 5 < k := h.resolve_left h1
    clear h
    go_enter Tryd.func7, Tryd.ntmps7
    go_wp2_with fail
    go_ret
    exact ⟨rfl, by (repeat (first | with_reducible exact Gr.refl _ | with_reducible assumption | with_reducible refine Gr.setCell ?_ (by simp; try omega) _ | with_reducible refine Gr.alloc ?_ _ | with_reducible refine Gr.drew ?_ | with_reducible refine Gr.drewN ?_ _ | with_reducible refine Gr.trans ?_ (by assumption)))⟩

set_option maxRecDepth 100000 in
set_option maxHeartbeats 2000000 in
theorem id_zero {w : World} {k c m : Int} {l : List Int} {a1 a2 : Option Addr} {n1 c1 n2 c2 : Nat} (h3 : ¬ k < 3) (h5 : ¬ 5 < k) (hl : l.length ≤ 140737488351232) (hlr : ∀ c ∈ l, 0 ≤ c ∧ c < 256) :
    Calls Tryd.prog 7 #[.agg #[.int .i64 k, .int .u8 c, .int .u8 0, .slice a1 n1 c1, .string (strOf l), .slice a2 n2 c2]] w (IdOut w (idR k c 0 l)) := by
  rw [idR_zero h3 h5]
  obtain ⟨nl, hnl⟩ : ∃ nl, l.length = nl := ⟨_, rfl⟩
  rw [hnl] at hl
  have hss := fun w => src_str (w := w) hnl hlr
  obtain ⟨s, hsd⟩ : ∃ s, s = strOf l := ⟨_, rfl⟩
  rw [← hsd] at hss ⊢
  have HN := Lib.hid hnl
  have hb0 := heap_alloc_new w (.cells #[.int .i64 k, .int .u8 c, .int .u8 0, .slice a1 n1 c1, .string s, .slice a2 n2 c2] 53)
  have hw0 := (Gr.refl w).alloc (.cells #[.int .i64 k, .int .u8 c, .int .u8 0, .slice a1 n1 c1, .string s, .slice a2 n2 c2] 53)
  have hb1 : ∀ w9, Gr (w.alloc (.cells #[.int .i64 k, .int .u8 c, .int .u8 0, .slice a1 n1 c1, .string s, .slice a2 n2 c2] 53)) w9 → w9.heap[w.heap.size]? = some (.cells #[.int .i64 k, .int .u8 c, .int .u8 0, .slice a1 n1 c1, .string s, .slice a2 n2 c2] 53 (0, 0)) := fun w9 hg => hg.blk hb0

  clear hnl hsd hlr
  go_enter Tryd.func7, Tryd.ntmps7
  go_upto_region 3 with (fail)
  obtain ⟨wb, hwb⟩ : ∃ wb, wb = w.alloc (.cells #[.int .i64 k, .int .u8 c, .int .u8 0, .slice a1 n1 c1, .string s, .slice a2 n2 c2] 53) := ⟨_, rfl⟩
  rw [← hwb] at hb1 hw0 ⊢
  have hS := fun (w9 : World) (hg : Gr wb w9) => cells6 (hb1 w9 hg)
  have hbz : w.heap.size < wb.heap.size := by rw [hwb]; simp
  clear hwb hb0
  have hgb := Gr.refl wb
  obtain ⟨t0, t1, t2, t3, t4, t5, tf⟩ := hS _ hgb
  go_upto_region 6 with (fail)
  obtain ⟨xl, hxl⟩ : ∃ xl, xl = bcells l := ⟨_, rfl⟩
  obtain ⟨R, hR⟩ : ∃ R, R = wb.heap.size := ⟨_, rfl⟩
  obtain ⟨v0, hv0⟩ : ∃ v0 : Value, v0 = .slice none 0 0 := ⟨_, rfl⟩
  obtain ⟨n0, hn0⟩ : ∃ n0 : Nat, n0 = 0 := ⟨_, rfl⟩
  obtain ⟨x0, hx0⟩ : ∃ x0 : List Value, x0 = [] := ⟨_, rfl⟩
  obtain ⟨r, hr⟩ : ∃ r : ByteArray, r = strOf (l ++ [c]) := ⟨_, rfl⟩
  have hrow0 : wb.ownsRow wb.heap.size 5 1 v0 n0 x0 := by rw [hv0, hn0, hx0]; exact World.ownsRow_nil _ _ _ _
  have hres : x0 ++ xl ++ [Value.int .u8 c] = bcells (l ++ [c]) := by rw [hx0, hxl]; simp [bcells]
  have hn1 : n0 ≤ 1 := by omega
  have hblk : ∀ k, v0.ownBlock = some k → k < R := fun k hk => by rw [hR]; exact ownsRow_blk hrow0 hk
  have hbR : wb.heap.size ≤ R := by rw [hR]; exact Nat.le_refl _
  have hss' : ∀ w9, Src Tryd.prog 1 9 (.string s) nl xl w9 := fun w9 => by rw [hxl]; exact hss w9
  have HRES := Lib.hid hres
  have HX0 := Lib.hid hx0
  have HV := Lib.hid hv0
  have HN0 := Lib.hid hn0
  have HR := Lib.hid hr
  have HXL := Lib.hid hxl
  clear hres hx0 hxl hss hr
  refine wp_region_facts7 (idF wb.heap.size w.heap.size R v0 n0 nl x0 xl c s r) (fun _ _ _ _ => True) idD (idG wb.heap.size v0 n0 x0) (fun w' => Gr wb w' ∧ R ≤ w'.heap.size) (by kernel_rfl) (by kernel_rfl) (by kernel_rfl) ?_ ⟨((Gr.refl _).drew), by simp [hR]⟩ (fun j => by unfold idG; split <;> first | exact ownsRow_gr hrow0 ((Gr.refl _).drew) | trivial) ?_ ?_
  · intro j o ho ys zs w' hj he hF
    unfold idF at hF ⊢
    split at hF <;> first | (simp only [← hj]; exact hF) | trivial
  · refine Steps7.cons1 1 rfl rfl ?_ (Steps7.cons1 2 rfl rfl ?_ (Steps7.cons1 3 rfl rfl ?_ (Steps7.cons1 4 rfl rfl ?_ (Steps7.cons1 5 rfl rfl ?_ (Steps7.cons1 6 rfl rfl ?_ (Steps7.cons1 7 rfl rfl ?_ (Steps7.cons1 8 rfl rfl ?_ (Steps7.cons1 9 rfl rfl ?_ (Steps7.cons1 10 rfl rfl ?_ (Steps7.nil))))))))))
    · (intro L ys w' hB hD hP hn; simp only [LAll, Region.binds, forall_const, and_true, true_and] at hP)
      intro K hK
      simp only [fillA]
      go_simp
      have h2 := hK (.slice none 0 0) w' hB (by rw [← HV.out]; exact setY_at ys 0 _) (fun j _ _ h => h) (fun j _ _ h => h) (fun j _ => ⟨fun _ => trivial, fun _ => trivial⟩)
      simp [fillA, Act.put] at h2
      exact h2
    · (intro L ys w' hB hD hP hn; simp only [LAll, Region.binds, forall_const, and_true, true_and] at hP)
      intro K hK
      simp only [fillA]
      go_simp
      have h2 := hK (.pointer (some ⟨w.heap.size, 4, none⟩)) w' hB (setY_at ys 1 _) (fun j _ _ h => h) (fun j _ _ h => h) (fun j _ => ⟨fun _ => trivial, fun _ => trivial⟩)
      simp [fillA, Act.put] at h2
      exact h2
    · (intro L ys w' hB hD hP hn; simp only [LAll, Region.binds, forall_const, and_true, true_and] at hP)
      have f1 : ys 1 = .pointer (some ⟨w.heap.size, 4, none⟩) := hD.fact 1 (by first | exact hP | exact hP.1 | exact hP.2.1 | exact hP.2.2.1 | exact hP.2.2.2.1 | exact hP.2.2.2.2 | exact hP.2 | exact hP.2.2 | exact hP.2.2.2) (fun i _ => by simp [idD])
      obtain ⟨q0, q1, q2, q3, q4, q5, qf⟩ := hS _ hB.1
      intro K hK
      simp only [fillA]
      go_simp
      have h2 := hK (.string s) w' hB (setY_at ys 2 _) (fun j _ _ h => h) (fun j _ _ h => h) (fun j _ => ⟨fun _ => trivial, fun _ => trivial⟩)
      simp [fillA, Act.put, f1] at h2
      exact h2
    · (intro L ys w' hB hD hP hn; simp only [LAll, Region.binds, forall_const, and_true, true_and] at hP)
      have h7 : ∀ i, i = 7 → ¬ L i := fun i e h => hn (hD.back 7 _ (e ▸ h) rfl ⟨3, .data⟩ (by simp) rfl)
      have f0 : ys 0 = v0 := hD.fact 0 (by first | exact hP | exact hP.1 | exact hP.2.1 | exact hP.2.2.1 | exact hP.2.2.2.1 | exact hP.2.2.2.2 | exact hP.2 | exact hP.2.2 | exact hP.2.2.2) (fun i _ => by simp [idD])
      have hr0 : w'.ownsRow wb.heap.size 5 1 v0 n0 x0 := hD.yet 3 hn
      have f2 : ys 2 = .string s := hD.fact 2 (by first | exact hP | exact hP.1 | exact hP.2.1 | exact hP.2.2.1 | exact hP.2.2.2.1 | exact hP.2.2.2.2 | exact hP.2 | exact hP.2.2 | exact hP.2.2.2) (fun i _ => by simp [idD])
      have hz := gr_le hB.1
      intro K hK
      with_reducible refine wp_addW (.tmp 20) (.tmp 22) 50 9 ?ho3 5 (.int .u8 0) 1 bytesT u8i ?hz3 wb.heap.size v0 n0 x0 ?hx3 hr0 hz (.string s) nl xl ?hy3 (hss' w') ?hn3 ?hb3 ?hh3
      case ho3 => rfl
      case hz3 => rfl
      case hx3 => simp [Act.eval, fillA, Act.put, f0]
      case hy3 => simp [Act.eval, fillA, Act.put, f2]
      case hn3 => unfold maxLen; omega
      case hb3 => omega
      case hh3 =>
        intro va ca w2 hown hgb2
        exact hK _ w2 ⟨hB.1.grown hr0 (Nat.le_refl _) hgb2, Nat.le_trans hB.2 hgb2.size⟩ ⟨va, ca, setY_at ys 3 _, hown⟩ (fun j hl hd h => h.grown (fun e => hn (e ▸ hl)) (fun e => h7 j e hl) hgb2 (fun _ => hblk)) (fun j _ hj _ => idG.no hj) (fun j _ => ⟨fun _ => trivial, fun _ => trivial⟩)
    · (intro L ys w' hB hD hP hn; simp only [LAll, Region.binds, forall_const, and_true, true_and] at hP)
      intro K hK
      simp only [fillA]
      go_simp
      have h2 := hK (.pointer (some ⟨w.heap.size, 1, none⟩)) w' hB (setY_at ys 4 _) (fun j _ _ h => h) (fun j _ _ h => h) (fun j _ => ⟨fun _ => trivial, fun _ => trivial⟩)
      simp [fillA, Act.put] at h2
      exact h2
    · (intro L ys w' hB hD hP hn; simp only [LAll, Region.binds, forall_const, and_true, true_and] at hP)
      have f4 : ys 4 = .pointer (some ⟨w.heap.size, 1, none⟩) := hD.fact 4 (by first | exact hP | exact hP.1 | exact hP.2.1 | exact hP.2.2.1 | exact hP.2.2.2.1 | exact hP.2.2.2.2 | exact hP.2 | exact hP.2.2 | exact hP.2.2.2) (fun i _ => by simp [idD])
      obtain ⟨q0, q1, q2, q3, q4, q5, qf⟩ := hS _ hB.1
      intro K hK
      simp only [fillA]
      go_simp
      have h2 := hK (.int .u8 c) w' hB (setY_at ys 5 _) (fun j _ _ h => h) (fun j _ _ h => h) (fun j _ => ⟨fun _ => trivial, fun _ => trivial⟩)
      simp [fillA, Act.put, f4] at h2
      exact h2
    · (intro L ys w' hB hD hP hn; simp only [LAll, Region.binds, forall_const, and_true, true_and] at hP)
      have f5 : ys 5 = .int .u8 c := hD.fact 5 (by first | exact hP | exact hP.1 | exact hP.2.1 | exact hP.2.2.1 | exact hP.2.2.2.1 | exact hP.2.2.2.2 | exact hP.2 | exact hP.2.2 | exact hP.2.2.2) (fun i _ => by simp [idD])
      intro K hK
      simp only [fillA]
      go_simp
      have h2 := hK (.slice (some ⟨w'.heap.size, 0, none⟩) 1 1) (w'.alloc (.cells #[.int .u8 c] 5)) ⟨hB.1.alloc _, by simp; omega⟩ ⟨_, setY_at ys 6 _, hB.2, heap_alloc_new _ _⟩ (fun j _ _ h => h.gr ((Gr.refl _).alloc _)) (fun j _ _ h => h.gr ((Gr.refl _).alloc _)) (fun j _ => ⟨fun _ => trivial, fun _ => trivial⟩)
      simp [fillA, Act.put, f5] at h2 ⊢
      exact h2
    · (intro L ys w' hB hD hP hn; simp only [LAll, Region.binds, forall_const, and_true, true_and] at hP)
      have hL3 : L 3 := (by first | exact hP | exact hP.1 | exact hP.2.1 | exact hP.2.2.1 | exact hP.2.2.2.1 | exact hP.2.2.2.2 | exact hP.2 | exact hP.2.2 | exact hP.2.2.2)
      obtain ⟨va, ca, f3, hr3⟩ : ∃ va cap, ys 3 = .slice va (n0 + nl) cap ∧ w'.ownsRow wb.heap.size 5 1 (.slice va (n0 + nl) cap) (n0 + nl) (x0 ++ xl) := hD.fact 3 (by first | exact hP | exact hP.1 | exact hP.2.1 | exact hP.2.2.1 | exact hP.2.2.2.1 | exact hP.2.2.2.2 | exact hP.2 | exact hP.2.2 | exact hP.2.2.2) (fun i hi => by
        have h1 : i ≠ 7 := fun e => hn (e ▸ hi)
        simp [idD, h1])
      obtain ⟨g, f6, hge, hgb⟩ : ∃ g, ys 6 = .slice (some ⟨g, 0, none⟩) 1 1 ∧ R ≤ g ∧ w'.heap[g]? = some (.cells #[.int .u8 c] 5 (0, 0)) := hD.fact 6 (by first | exact hP | exact hP.1 | exact hP.2.1 | exact hP.2.2.1 | exact hP.2.2.2.1 | exact hP.2.2.2.2 | exact hP.2 | exact hP.2.2 | exact hP.2.2.2) (fun i hi => by
        have h1 : i ≠ 7 := fun e => hn (e ▸ hi)
        simp [idD, h1])
      have hz := gr_le hB.1
      intro K hK
      with_reducible refine wp_addW (.tmp 23) (.tmp 26) 50 50 ?ho8 5 (.int .u8 0) 1 bytesT u8i ?hz8 wb.heap.size (.slice va (n0 + nl) ca) (n0 + nl) (x0 ++ xl) ?hx8 hr3 hz (.slice (some ⟨g, 0, none⟩) 1 1) 1 [.int .u8 c] ?hy8 (src_block bytesT [.int .u8 c] hgb rfl ?h18) ?hn8 ?hb8 ?hh8
      case ho8 => rfl
      case hz8 => rfl
      case h18 => simp [Value.oneCell']
      case hx8 => simp [Act.eval, fillA, Act.put, f3]
      case hy8 => simp [Act.eval, fillA, Act.put, f6]
      case hn8 => unfold maxLen; omega
      case hb8 => omega
      case hh8 =>
        intro va2 ca2 w2 hown hgb2
        exact hK _ w2 ⟨hB.1.grown hr3 (Nat.le_refl _) hgb2, Nat.le_trans hB.2 hgb2.size⟩ ⟨va2, ca2, setY_at ys 7 _, hown⟩ (fun j hl hd h => h.grown (fun e => by subst e; simp [idD] at hd) (fun e => hn (e ▸ hl)) hgb2 (fun e => by subst e; simp [idD] at hd)) (fun j hj _ _ => idG.no (fun e => hj (e ▸ hL3))) (fun j _ => ⟨fun _ => trivial, fun _ => trivial⟩)
    · (intro L ys w' hB hD hP hn; simp only [LAll, Region.binds, forall_const, and_true, true_and] at hP)
      obtain ⟨va, ca, f7, hr7⟩ : ∃ va cap, ys 7 = .slice va (n0 + nl + 1) cap ∧ w'.ownsRow wb.heap.size 5 1 (.slice va (n0 + nl + 1) cap) (n0 + nl + 1) (x0 ++ xl ++ [Value.int .u8 c]) := hD.fact 7 (by first | exact hP | exact hP.1 | exact hP.2.1 | exact hP.2.2.1 | exact hP.2.2.2.1 | exact hP.2.2.2.2 | exact hP.2 | exact hP.2.2 | exact hP.2.2.2) (fun i _ => by simp [idD])
      have hcv := conv_own8 hr7 HRES.out
      rw [← HR.out] at hcv
      intro K hK
      with_reducible refine wp_conv (.tmp 27) 50 9 ?ho9 (.slice va (n0 + nl + 1) ca) ?hx9 (.string r) hcv ?hh9
      case ho9 => rfl
      case hx9 => simp [Act.eval, fillA, Act.put, f7]
      case hh9 => exact hK _ w' hB (setY_at ys 8 _) (fun j _ _ h => h) (fun j _ _ h => h) (fun j _ => ⟨fun _ => trivial, fun _ => trivial⟩)
    · (intro L ys w' hB hD hP hn; simp only [LAll, Region.binds, forall_const, and_true, true_and] at hP)
      have f8 : ys 8 = .string r := hD.fact 8 (by first | exact hP | exact hP.1 | exact hP.2.1 | exact hP.2.2.1 | exact hP.2.2.2.1 | exact hP.2.2.2.2 | exact hP.2 | exact hP.2.2 | exact hP.2.2.2) (fun i _ => by simp [idD])
      intro K hK
      simp only [fillA]
      go_simp
      have h2 := hK (.string r) w' hB (setY_at ys 9 _) (fun j _ _ h => h) (fun j _ _ h => h) (fun j _ => ⟨fun _ => trivial, fun _ => trivial⟩)
      simp [fillA, Act.put, f8] at h2
      exact h2
  · intro ys w' hB hF _
    have f9 : ys 9 = .string r := hF 9 (by decide) (fun k _ => by simp [idD])
    clear hF
    simp only [fillA, f9]
    go_wp2_with fail
    go_ret
    exact ⟨by simp [Act.put, f9]; exact HR.out, hw0.trans hB.1⟩

set_option maxRecDepth 100000 in
set_option maxHeartbeats 2000000 in
theorem id_mark {w : World} {k c m : Int} {l : List Int} {a1 a2 : Option Addr} {n1 c1 n2 c2 : Nat} (h3 : ¬ k < 3) (h5 : ¬ 5 < k) (hm : m ≠ 0) (hl : l.length ≤ 140737488351232) (hlr : ∀ c ∈ l, 0 ≤ c ∧ c < 256) :
    Calls Tryd.prog 7 #[.agg #[.int .i64 k, .int .u8 c, .int .u8 m, .slice a1 n1 c1, .string (strOf l), .slice a2 n2 c2]] w (IdOut w (idR k c m l)) := by
  rw [idR_mark h3 h5 hm]
  obtain ⟨nl, hnl⟩ : ∃ nl, l.length = nl := ⟨_, rfl⟩
  rw [hnl] at hl
  have hss := fun w => src_str (w := w) hnl hlr
  obtain ⟨s, hsd⟩ : ∃ s, s = strOf l := ⟨_, rfl⟩
  rw [← hsd] at hss ⊢
  have HN := Lib.hid hnl
  have hb0 := heap_alloc_new w (.cells #[.int .i64 k, .int .u8 c, .int .u8 m, .slice a1 n1 c1, .string s, .slice a2 n2 c2] 53)
  have hw0 := (Gr.refl w).alloc (.cells #[.int .i64 k, .int .u8 c, .int .u8 m, .slice a1 n1 c1, .string s, .slice a2 n2 c2] 53)
  have hb1 : ∀ w9, Gr (w.alloc (.cells #[.int .i64 k, .int .u8 c, .int .u8 m, .slice a1 n1 c1, .string s, .slice a2 n2 c2] 53)) w9 → w9.heap[w.heap.size]? = some (.cells #[.int .i64 k, .int .u8 c, .int .u8 m, .slice a1 n1 c1, .string s, .slice a2 n2 c2] 53 (0, 0)) := fun w9 hg => hg.blk hb0
  have hmz : (m != 0) = true := by simpa using hm
  clear hnl hsd hlr
  go_enter Tryd.func7, Tryd.ntmps7
  go_upto_region 3 with (fail)
  obtain ⟨wb, hwb⟩ : ∃ wb, wb = w.alloc (.cells #[.int .i64 k, .int .u8 c, .int .u8 m, .slice a1 n1 c1, .string s, .slice a2 n2 c2] 53) := ⟨_, rfl⟩
  rw [← hwb] at hb1 hw0 ⊢
  have hS := fun (w9 : World) (hg : Gr wb w9) => cells6 (hb1 w9 hg)
  have hbz : w.heap.size < wb.heap.size := by rw [hwb]; simp
  clear hwb hb0
  have hgb := Gr.refl wb
  obtain ⟨t0, t1, t2, t3, t4, t5, tf⟩ := hS _ hgb
  go_upto_region 6 with (at_builtin; refine wpList_addN (w0 := wb) rfl _ _ _ _ rfl 5 _ 1 bytesT u8i rfl rfl ((Gr.refl _).alloc _) _ 1 [.int .u8 m] rfl (src_block bytesT _ (heap_alloc_new _ _) rfl (by simp [Value.oneCell'])) (by unfold maxLen; omega) (by omega) ?_; intro va5 vc5 w5 hown5 hg5 _)
  obtain ⟨z0, z1, z2, z3, z4, z5, zf⟩ := hS w5 hg5
  clear t0 t1 t2 t3 t4 t5 tf
  obtain ⟨xl, hxl⟩ : ∃ xl, xl = bcells l := ⟨_, rfl⟩
  obtain ⟨R, hR⟩ : ∃ R, R = w5.heap.size := ⟨_, rfl⟩
  obtain ⟨v0, hv0⟩ : ∃ v0 : Value, v0 = .slice va5 1 vc5 := ⟨_, rfl⟩
  obtain ⟨n0, hn0⟩ : ∃ n0 : Nat, n0 = 1 := ⟨_, rfl⟩
  obtain ⟨x0, hx0⟩ : ∃ x0 : List Value, x0 = [.int .u8 m] := ⟨_, rfl⟩
  obtain ⟨r, hr⟩ : ∃ r : ByteArray, r = strOf ([m] ++ (l ++ [c])) := ⟨_, rfl⟩
  have hrow0 : w5.ownsRow wb.heap.size 5 1 v0 n0 x0 := by rw [hv0, hn0, hx0]; exact hown5
  have hres : x0 ++ xl ++ [Value.int .u8 c] = bcells ([m] ++ (l ++ [c])) := by rw [hx0, hxl]; simp [bcells]
  have hn1 : n0 ≤ 1 := by omega
  have hblk : ∀ k, v0.ownBlock = some k → k < R := fun k hk => by rw [hR]; exact ownsRow_blk hrow0 hk
  have hbR : wb.heap.size ≤ R := by rw [hR]; exact gr_le hg5
  have hss' : ∀ w9, Src Tryd.prog 1 9 (.string s) nl xl w9 := fun w9 => by rw [hxl]; exact hss w9
  have HRES := Lib.hid hres
  have HX0 := Lib.hid hx0
  have HV := Lib.hid hv0
  have HN0 := Lib.hid hn0
  have HR := Lib.hid hr
  have HXL := Lib.hid hxl
  clear hres hx0 hxl hss hr hown5
  refine wp_region_facts7 (idF wb.heap.size w.heap.size R v0 n0 nl x0 xl c s r) (fun _ _ _ _ => True) idD (idG wb.heap.size v0 n0 x0) (fun w' => Gr wb w' ∧ R ≤ w'.heap.size) (by kernel_rfl) (by kernel_rfl) (by kernel_rfl) ?_ ⟨(hg5.drew), by simp [hR]⟩ (fun j => by unfold idG; split <;> first | exact ownsRow_gr hrow0 ((Gr.refl _).drew) | trivial) ?_ ?_
  · intro j o ho ys zs w' hj he hF
    unfold idF at hF ⊢
    split at hF <;> first | (simp only [← hj]; exact hF) | trivial
  · refine Steps7.cons1 1 rfl rfl ?_ (Steps7.cons1 2 rfl rfl ?_ (Steps7.cons1 3 rfl rfl ?_ (Steps7.cons1 4 rfl rfl ?_ (Steps7.cons1 5 rfl rfl ?_ (Steps7.cons1 6 rfl rfl ?_ (Steps7.cons1 7 rfl rfl ?_ (Steps7.cons1 8 rfl rfl ?_ (Steps7.cons1 9 rfl rfl ?_ (Steps7.cons1 10 rfl rfl ?_ (Steps7.nil))))))))))
    · (intro L ys w' hB hD hP hn; simp only [LAll, Region.binds, forall_const, and_true, true_and] at hP)
      intro K hK
      simp only [fillA]
      go_simp
      have h2 := hK (.slice va5 1 vc5) w' hB (by rw [← HV.out]; exact setY_at ys 0 _) (fun j _ _ h => h) (fun j _ _ h => h) (fun j _ => ⟨fun _ => trivial, fun _ => trivial⟩)
      simp [fillA, Act.put] at h2
      exact h2
    · (intro L ys w' hB hD hP hn; simp only [LAll, Region.binds, forall_const, and_true, true_and] at hP)
      intro K hK
      simp only [fillA]
      go_simp
      have h2 := hK (.pointer (some ⟨w.heap.size, 4, none⟩)) w' hB (setY_at ys 1 _) (fun j _ _ h => h) (fun j _ _ h => h) (fun j _ => ⟨fun _ => trivial, fun _ => trivial⟩)
      simp [fillA, Act.put] at h2
      exact h2
    · (intro L ys w' hB hD hP hn; simp only [LAll, Region.binds, forall_const, and_true, true_and] at hP)
      have f1 : ys 1 = .pointer (some ⟨w.heap.size, 4, none⟩) := hD.fact 1 (by first | exact hP | exact hP.1 | exact hP.2.1 | exact hP.2.2.1 | exact hP.2.2.2.1 | exact hP.2.2.2.2 | exact hP.2 | exact hP.2.2 | exact hP.2.2.2) (fun i _ => by simp [idD])
      obtain ⟨q0, q1, q2, q3, q4, q5, qf⟩ := hS _ hB.1
      intro K hK
      simp only [fillA]
      go_simp
      have h2 := hK (.string s) w' hB (setY_at ys 2 _) (fun j _ _ h => h) (fun j _ _ h => h) (fun j _ => ⟨fun _ => trivial, fun _ => trivial⟩)
      simp [fillA, Act.put, f1] at h2
      exact h2
    · (intro L ys w' hB hD hP hn; simp only [LAll, Region.binds, forall_const, and_true, true_and] at hP)
      have h7 : ∀ i, i = 7 → ¬ L i := fun i e h => hn (hD.back 7 _ (e ▸ h) rfl ⟨3, .data⟩ (by simp) rfl)
      have f0 : ys 0 = v0 := hD.fact 0 (by first | exact hP | exact hP.1 | exact hP.2.1 | exact hP.2.2.1 | exact hP.2.2.2.1 | exact hP.2.2.2.2 | exact hP.2 | exact hP.2.2 | exact hP.2.2.2) (fun i _ => by simp [idD])
      have hr0 : w'.ownsRow wb.heap.size 5 1 v0 n0 x0 := hD.yet 3 hn
      have f2 : ys 2 = .string s := hD.fact 2 (by first | exact hP | exact hP.1 | exact hP.2.1 | exact hP.2.2.1 | exact hP.2.2.2.1 | exact hP.2.2.2.2 | exact hP.2 | exact hP.2.2 | exact hP.2.2.2) (fun i _ => by simp [idD])
      have hz := gr_le hB.1
      intro K hK
      with_reducible refine wp_addW (.tmp 20) (.tmp 22) 50 9 ?ho3 5 (.int .u8 0) 1 bytesT u8i ?hz3 wb.heap.size v0 n0 x0 ?hx3 hr0 hz (.string s) nl xl ?hy3 (hss' w') ?hn3 ?hb3 ?hh3
      case ho3 => rfl
      case hz3 => rfl
      case hx3 => simp [Act.eval, fillA, Act.put, f0]
      case hy3 => simp [Act.eval, fillA, Act.put, f2]
      case hn3 => unfold maxLen; omega
      case hb3 => omega
      case hh3 =>
        intro va ca w2 hown hgb2
        exact hK _ w2 ⟨hB.1.grown hr0 (Nat.le_refl _) hgb2, Nat.le_trans hB.2 hgb2.size⟩ ⟨va, ca, setY_at ys 3 _, hown⟩ (fun j hl hd h => h.grown (fun e => hn (e ▸ hl)) (fun e => h7 j e hl) hgb2 (fun _ => hblk)) (fun j _ hj _ => idG.no hj) (fun j _ => ⟨fun _ => trivial, fun _ => trivial⟩)
    · (intro L ys w' hB hD hP hn; simp only [LAll, Region.binds, forall_const, and_true, true_and] at hP)
      intro K hK
      simp only [fillA]
      go_simp
      have h2 := hK (.pointer (some ⟨w.heap.size, 1, none⟩)) w' hB (setY_at ys 4 _) (fun j _ _ h => h) (fun j _ _ h => h) (fun j _ => ⟨fun _ => trivial, fun _ => trivial⟩)
      simp [fillA, Act.put] at h2
      exact h2
    · (intro L ys w' hB hD hP hn; simp only [LAll, Region.binds, forall_const, and_true, true_and] at hP)
      have f4 : ys 4 = .pointer (some ⟨w.heap.size, 1, none⟩) := hD.fact 4 (by first | exact hP | exact hP.1 | exact hP.2.1 | exact hP.2.2.1 | exact hP.2.2.2.1 | exact hP.2.2.2.2 | exact hP.2 | exact hP.2.2 | exact hP.2.2.2) (fun i _ => by simp [idD])
      obtain ⟨q0, q1, q2, q3, q4, q5, qf⟩ := hS _ hB.1
      intro K hK
      simp only [fillA]
      go_simp
      have h2 := hK (.int .u8 c) w' hB (setY_at ys 5 _) (fun j _ _ h => h) (fun j _ _ h => h) (fun j _ => ⟨fun _ => trivial, fun _ => trivial⟩)
      simp [fillA, Act.put, f4] at h2
      exact h2
    · (intro L ys w' hB hD hP hn; simp only [LAll, Region.binds, forall_const, and_true, true_and] at hP)
      have f5 : ys 5 = .int .u8 c := hD.fact 5 (by first | exact hP | exact hP.1 | exact hP.2.1 | exact hP.2.2.1 | exact hP.2.2.2.1 | exact hP.2.2.2.2 | exact hP.2 | exact hP.2.2 | exact hP.2.2.2) (fun i _ => by simp [idD])
      intro K hK
      simp only [fillA]
      go_simp
      have h2 := hK (.slice (some ⟨w'.heap.size, 0, none⟩) 1 1) (w'.alloc (.cells #[.int .u8 c] 5)) ⟨hB.1.alloc _, by simp; omega⟩ ⟨_, setY_at ys 6 _, hB.2, heap_alloc_new _ _⟩ (fun j _ _ h => h.gr ((Gr.refl _).alloc _)) (fun j _ _ h => h.gr ((Gr.refl _).alloc _)) (fun j _ => ⟨fun _ => trivial, fun _ => trivial⟩)
      simp [fillA, Act.put, f5] at h2 ⊢
      exact h2
    · (intro L ys w' hB hD hP hn; simp only [LAll, Region.binds, forall_const, and_true, true_and] at hP)
      have hL3 : L 3 := (by first | exact hP | exact hP.1 | exact hP.2.1 | exact hP.2.2.1 | exact hP.2.2.2.1 | exact hP.2.2.2.2 | exact hP.2 | exact hP.2.2 | exact hP.2.2.2)
      obtain ⟨va, ca, f3, hr3⟩ : ∃ va cap, ys 3 = .slice va (n0 + nl) cap ∧ w'.ownsRow wb.heap.size 5 1 (.slice va (n0 + nl) cap) (n0 + nl) (x0 ++ xl) := hD.fact 3 (by first | exact hP | exact hP.1 | exact hP.2.1 | exact hP.2.2.1 | exact hP.2.2.2.1 | exact hP.2.2.2.2 | exact hP.2 | exact hP.2.2 | exact hP.2.2.2) (fun i hi => by
        have h1 : i ≠ 7 := fun e => hn (e ▸ hi)
        simp [idD, h1])
      obtain ⟨g, f6, hge, hgb⟩ : ∃ g, ys 6 = .slice (some ⟨g, 0, none⟩) 1 1 ∧ R ≤ g ∧ w'.heap[g]? = some (.cells #[.int .u8 c] 5 (0, 0)) := hD.fact 6 (by first | exact hP | exact hP.1 | exact hP.2.1 | exact hP.2.2.1 | exact hP.2.2.2.1 | exact hP.2.2.2.2 | exact hP.2 | exact hP.2.2 | exact hP.2.2.2) (fun i hi => by
        have h1 : i ≠ 7 := fun e => hn (e ▸ hi)
        simp [idD, h1])
      have hz := gr_le hB.1
      intro K hK
      with_reducible refine wp_addW (.tmp 23) (.tmp 26) 50 50 ?ho8 5 (.int .u8 0) 1 bytesT u8i ?hz8 wb.heap.size (.slice va (n0 + nl) ca) (n0 + nl) (x0 ++ xl) ?hx8 hr3 hz (.slice (some ⟨g, 0, none⟩) 1 1) 1 [.int .u8 c] ?hy8 (src_block bytesT [.int .u8 c] hgb rfl ?h18) ?hn8 ?hb8 ?hh8
      case ho8 => rfl
      case hz8 => rfl
      case h18 => simp [Value.oneCell']
      case hx8 => simp [Act.eval, fillA, Act.put, f3]
      case hy8 => simp [Act.eval, fillA, Act.put, f6]
      case hn8 => unfold maxLen; omega
      case hb8 => omega
      case hh8 =>
        intro va2 ca2 w2 hown hgb2
        exact hK _ w2 ⟨hB.1.grown hr3 (Nat.le_refl _) hgb2, Nat.le_trans hB.2 hgb2.size⟩ ⟨va2, ca2, setY_at ys 7 _, hown⟩ (fun j hl hd h => h.grown (fun e => by subst e; simp [idD] at hd) (fun e => hn (e ▸ hl)) hgb2 (fun e => by subst e; simp [idD] at hd)) (fun j hj _ _ => idG.no (fun e => hj (e ▸ hL3))) (fun j _ => ⟨fun _ => trivial, fun _ => trivial⟩)
    · (intro L ys w' hB hD hP hn; simp only [LAll, Region.binds, forall_const, and_true, true_and] at hP)
      obtain ⟨va, ca, f7, hr7⟩ : ∃ va cap, ys 7 = .slice va (n0 + nl + 1) cap ∧ w'.ownsRow wb.heap.size 5 1 (.slice va (n0 + nl + 1) cap) (n0 + nl + 1) (x0 ++ xl ++ [Value.int .u8 c]) := hD.fact 7 (by first | exact hP | exact hP.1 | exact hP.2.1 | exact hP.2.2.1 | exact hP.2.2.2.1 | exact hP.2.2.2.2 | exact hP.2 | exact hP.2.2 | exact hP.2.2.2) (fun i _ => by simp [idD])
      have hcv := conv_own8 hr7 HRES.out
      rw [← HR.out] at hcv
      intro K hK
      with_reducible refine wp_conv (.tmp 27) 50 9 ?ho9 (.slice va (n0 + nl + 1) ca) ?hx9 (.string r) hcv ?hh9
      case ho9 => rfl
      case hx9 => simp [Act.eval, fillA, Act.put, f7]
      case hh9 => exact hK _ w' hB (setY_at ys 8 _) (fun j _ _ h => h) (fun j _ _ h => h) (fun j _ => ⟨fun _ => trivial, fun _ => trivial⟩)
    · (intro L ys w' hB hD hP hn; simp only [LAll, Region.binds, forall_const, and_true, true_and] at hP)
      have f8 : ys 8 = .string r := hD.fact 8 (by first | exact hP | exact hP.1 | exact hP.2.1 | exact hP.2.2.1 | exact hP.2.2.2.1 | exact hP.2.2.2.2 | exact hP.2 | exact hP.2.2 | exact hP.2.2.2) (fun i _ => by simp [idD])
      intro K hK
      simp only [fillA]
      go_simp
      have h2 := hK (.string r) w' hB (setY_at ys 9 _) (fun j _ _ h => h) (fun j _ _ h => h) (fun j _ => ⟨fun _ => trivial, fun _ => trivial⟩)
      simp [fillA, Act.put, f8] at h2
      exact h2
  · intro ys w' hB hF _
    have f9 : ys 9 = .string r := hF 9 (by decide) (fun k _ => by simp [idD])
    clear hF
    simp only [fillA, f9]
    go_wp2_with fail
    go_ret
    exact ⟨by simp [Act.put, f9]; exact HR.out, hw0.trans hB.1⟩

/-- The program's Id. -/
theorem tid_any {w : World} {k c m : Int} {l : List Int} {a1 a2 : Option Addr} {n1 c1 n2 c2 : Nat} (hl : l.length ≤ 140737488351232) (hlr : ∀ c ∈ l, 0 ≤ c ∧ c < 256) :
    Calls Tryd.prog 7 #[.agg #[.int .i64 k, .int .u8 c, .int .u8 m, .slice a1 n1 c1, .string (strOf l), .slice a2 n2 c2]] w (IdOut w (idR k c m l)) := by
  by_cases h : k < 3 ∨ 5 < k
  · exact id_off h
  · by_cases hm : m = 0
    · subst hm; exact id_zero (m := 0) (by omega) (by omega) hl hlr
    · exact id_mark (by omega) (by omega) hm hl hlr
end Go.Proofs.YthfipedfoofobaaDoor
