/-
  Tab stops to the left: Back.
-/
import Derived.Test.YtjdmobildcgidaaDoorTbF
import Derived.RangeFuncNested
namespace Go.Proofs.YtjdmobildcgidaaDoor
set_option linter.unusedSimpArgs false
set_option linter.unusedVariables false
open Go.RowKit Go.Shelf
set_option linter.unusedVariables false
attribute [local go_sem] Oper.semAt_some

set_option maxRecDepth 100000 in
set_option maxHeartbeats 1000000 in
theorem within_any (p : Nat) (n col : Int) (f : Nat → Bool) (w : World) (h : StAt w p n f) (hn : 0 ≤ n ∧ n ≤ 500) : Calls Tryd.prog 32 #[.pointer (some ⟨p, 0, none⟩), .int .i64 col] w fun e w' => e = .returned (.int .i64 (max 0 (min col (n - 1)))) ∧ w = w' := by
  have h0 := h.cell0
  obtain ⟨h1, h2⟩ := hn
  go_enter Tryd.func32, Tryd.ntmps32
  go_wp2
  go_ret
  exact ⟨rfl, rfl⟩

theorem Gr.size {w w' : World} (h : Gr w w') : w.heap.size ≤ w'.heap.size := Below.size h
/-- The n-th of numbers that are less. -/
def nthLt : List Int → Int → Int → Option Int
  | [], _, _ => none
  | c :: l, col, n => if c < col then (if n = 1 then some c else nthLt l col (n - 1)) else nthLt l col n
def cntI (l : List Int) (col : Int) : Nat := (l.filter (fun c => decide (c < col))).length
theorem cntI_snoc (l : List Int) (x col : Int) : cntI (l ++ [x]) col = cntI l col + if x < col then 1 else 0 := by
  unfold cntI
  rw [List.filter_append, List.length_append]
  by_cases h : x < col <;> simp [h]
theorem nthLt_none : ∀ (l : List Int) (col n : Int), 1 ≤ n → (cntI l col : Int) < n → nthLt l col n = none
  | [], _, _, _, _ => rfl
  | c :: l, col, n, h1, h => by
    unfold nthLt
    by_cases hc : c < col
    · have hk : cntI (c :: l) col = cntI l col + 1 := by unfold cntI; simp [hc]
      rw [if_pos hc, if_neg (by omega)]
      exact nthLt_none l col (n - 1) (by omega) (by omega)
    · have hk : cntI (c :: l) col = cntI l col := by unfold cntI; simp [hc]
      rw [if_neg hc]
      exact nthLt_none l col n h1 (by omega)
theorem nthLt_some : ∀ (a : List Int) (c : Int) (b : List Int) (col n : Int), c < col → (cntI a col : Int) + 1 = n → nthLt (a ++ c :: b) col n = some c
  | [], c, b, col, n, hc, h => by
    unfold nthLt
    simp only [List.nil_append, if_pos hc]
    rw [if_pos (by simp [cntI] at h; omega)]
  | x :: a, c, b, col, n, hc, h => by
    simp only [List.cons_append]
    unfold nthLt
    by_cases hx : x < col
    · have hk : cntI (x :: a) col = cntI a col + 1 := by unfold cntI; simp [hx]
      rw [if_pos hx, if_neg (by omega)]
      exact nthLt_some a c b col (n - 1) hc (by omega)
    · have hk : cntI (x :: a) col = cntI a col := by unfold cntI; simp [hx]
      rw [if_neg hx]
      exact nthLt_some a c b col n hc (by omega)
/-- The numbers from the last to the first. -/
theorem bw_rev (zs : List Int) (k : Nat) (hk : k ≤ zs.length) : (upto (bw zs) k).map (·.2) = zs.reverse.take k := by
  apply List.ext_getElem
  · simp [upto]; omega
  · intro i h1 h2
    have hi : i < k := by simpa [upto] using h1
    simp only [upto, List.map_map, List.getElem_map, List.getElem_range, Function.comp, bw, List.getElem_take, List.getElem_reverse]
    rw [List.getElem?_eq_getElem (by omega)]
    rfl
/-- What Back answers where something is wanted. -/
def backI (zs : List Int) (col n : Int) : Int := (nthLt zs.reverse col n).getD 0
def zsF (f : Nat → Bool) : List Int := (listF f 512).map fun (c : Nat) => (c : Int)
theorem zsF_len (f : Nat → Bool) : (zsF f).length = (listF f 512).length := by simp [zsF]
theorem intsV_of {w w' : World} {B n : Nat} {va : Option Addr} {cap : Nat} {f : Nat → Bool} (h : w.ownsRow B 3 1 (.slice va n cap) n (ncells (listF f 512))) (hg : Gr w w') : ∃ b, (b = 0 ∨ B ≤ b) ∧ (b < w'.heap.size ∨ b = 0) ∧ IntsV w' b (.slice va n cap) (zsF f) := by
  have hl : n = (zsF f).length := by have := h.1; rw [ncells_len] at this; rw [zsF_len]; omega
  rcases h.2 with ⟨hv, hn⟩ | ⟨g, cap', cur, hv, hB, hh, _⟩
  · injection hv with h1 h2 h3
    subst h1 h2 h3
    exact ⟨0, .inl rfl, .inr rfl, .inl ⟨rfl, List.eq_nil_of_length_eq_zero hl.symm⟩⟩
  · injection hv with h1 h2 h3
    subst h1
    have hgl := Nat.lt_of_lt_of_le (Array.getElem?_eq_some_iff.1 hh).1 (Gr.size hg)
    refine ⟨g, .inr hB, .inl hgl, .inr ⟨0, cap, by rw [hl], hgl, fun j hj => ?_⟩⟩
    have hc := h.cells (g := g) (by rfl) j (.int .i64 ((zsF f)[j]?.getD 0)) (by
      have hj2 : j < (listF f 512).length := by rw [← zsF_len]; exact hj
      simp [ncells, zsF, List.getElem?_eq_getElem hj2])
    rw [Nat.zero_add]
    have e : (⟨g, 0, none⟩ : Addr).add j = ⟨g, j, none⟩ := by rcases j with _ | j <;> simp [Addr.add]
    rw [e] at hc
    exact hg.cellAt hc

set_option maxRecDepth 100000 in
set_option maxHeartbeats 2000000 in
theorem back_loop (p : Nat) (N : Int) (col nn : Int) (f : Nat → Bool) (w : World) (h : StAt w p N f) (hT : TabOk w) (hn1 : 1 ≤ nn) (hnb : nn ≤ 9223372036854775807) :
    Calls Tryd.prog 12 #[.pointer (some ⟨p, 0, none⟩), .int .i64 col, .int .i64 nn] w fun e w' => e = .returned (.int .i64 (backI (zsF f) col nn)) ∧ Gr w w' := by
  obtain ⟨zs, hzs⟩ : ∃ zs, zs = zsF f := ⟨_, rfl⟩
  rw [← hzs]
  have HZS := Lib.hid hzs
  clear hzs
  refine (callsIn_wide (n := 6)).1 ?_
  have hro : Fence.wide.round = none := rfl
  have h1 : (1 : Nat) ≤ 6 := by omega
  have hpb := (Array.getElem?_eq_some_iff.1 h).1
  have hg3 : Gr w (((w.alloc (.cells #[.int .i64 col] 3)).alloc (.cells #[.int .i64 nn] 3)).alloc (.cells #[.int .i64 0] 3)) := (((Gr.refl w).alloc _).alloc _).alloc _
  have hl := fun (w' : World) (hg : Gr w w') => list_any p N f w' (h.gr hg) (hT.gr hg)
  have bC := Boxed.new w 3 (.int .i64 col)
  have bN := Boxed.new (w.alloc (.cells #[.int .i64 col] 3)) 3 (.int .i64 nn)
  have bR := Boxed.new ((w.alloc (.cells #[.int .i64 col] 3)).alloc (.cells #[.int .i64 nn] 3)) 3 (.int .i64 0)
  rw [World.size_alloc] at bN
  rw [World.size_alloc, World.size_alloc] at bR
  refine callsIn_of_wp_marks Tryd.func12 rfl trivial ?_ hro
  simp only [Tryd.ntmps12, List.size_toArray, List.length_cons, List.length_nil, Nat.reduceAdd, Nat.reduceSub, Array.replicate_succ, Array.replicate_zero, List.push_toArray, List.append_toArray, List.nil_append, List.cons_append]
  gi_wp2_with (first
    | (refine ⟨trivial, ?_⟩; gi_at_call 19; refine (callsIn_wide.2 (hl _ hg3)).mono ?_; rintro e w1 ⟨va, cap, rfl, hown, hg1⟩)
    | (refine ⟨trivial, ?_⟩; gi_at_call 33; refine (backward_in Fence.wide _ trivial hro _ _ _ _).mono ?_; rintro e w2 ⟨rfl, rfl⟩))
  have hgz := hg3.trans hg1
  have hs1 : w.heap.size + 3 ≤ w1.heap.size := by have := Gr.size hg1; simp only [World.size_alloc] at this; omega
  obtain ⟨b, hbB, hbl, hIV⟩ := intsV_of hown ((Gr.refl w1).alloc (.cells #[.slice va (listF f 512).length cap] 36))
  simp only [World.size_alloc] at hbB hbl
  have bS := Boxed.new w1 36 (.slice va (listF f 512).length cap)
  have hgL : Gr w1 (w1.alloc (.cells #[.slice va (listF f 512).length cap] 36)) := (Gr.refl w1).alloc _
  have bC1 : Boxed (w1.alloc (.cells #[.slice va (listF f 512).length cap] 36)) w.heap.size 3 (.int .i64 col) := hgL.blk (hg1.blk ((bC.alloc _).alloc _))
  have bN1 : Boxed (w1.alloc (.cells #[.slice va (listF f 512).length cap] 36)) (w.heap.size + 1) 3 (.int .i64 nn) := hgL.blk (hg1.blk (bN.alloc _))
  have bR1 : Boxed (w1.alloc (.cells #[.slice va (listF f 512).length cap] 36)) (w.heap.size + 1 + 1) 3 (.int .i64 0) := hgL.blk (hg1.blk bR)
  have hB0 : Below w.heap.size w (w1.alloc (.cells #[.slice va (listF f 512).length cap] 36)) := hgz.alloc _
  rw [← HZS.out] at hIV
  have hzl : zs.length ≤ 100000000 := by rw [HZS.out, zsF_len]; have := listF_len f 512; omega
  have hbs : ∀ k ∈ [b, w1.heap.size], k < (w1.alloc (.cells #[.slice va (listF f 512).length cap] 36)).heap.size := by
    intro k hk
    simp only [List.mem_cons, List.mem_nil_iff, or_false] at hk
    simp only [World.size_alloc]
    rcases hk with rfl | rfl <;> omega
  have hnb5 : ∀ k ∈ [b, w1.heap.size], k ≠ w.heap.size + 1 ∧ k ≠ w.heap.size + 1 + 1 := by
    intro k hk
    simp only [List.mem_cons, List.mem_nil_iff, or_false] at hk
    rcases hk with rfl | rfl <;> omega
  obtain ⟨m, hm⟩ : ∃ m, m = (listF f 512).length := ⟨_, rfl⟩
  rw [← hm] at hIV bS hgL bC1 bN1 bR1 hB0 hbs ⊢
  have HM := Lib.hid hm
  clear hm hown hl
  refine wpIn_rangeFunc_ownG hro h1 (gf := 41) (lb := #[.pointer (some ⟨w1.heap.size, 0, none⟩)]) rfl trivial (enters_of Tryd.func41 (by kernel_rfl) rfl)
    (backward_stops Fence.wide (6 - 1) trivial hro (by omega) w1.heap.size b _ zs hzl _ (by simp) bS.cell hIV) Kb.trans (Kb.put hbs) (Below.refl _ _) (fun _ => rfl)
    (fun pre W => ((cntI (pre.map (·.2)) col : Int) < nn ∧ Boxed W w.heap.size 3 (.int .i64 col) ∧ Boxed W (w.heap.size + 1) 3 (.int .i64 (nn - (cntI (pre.map (·.2)) col : Int))) ∧ Boxed W (w.heap.size + 1 + 1) 3 (.int .i64 0)) ∧ Below w.heap.size w W)
    (fun c pre W => (c = .ret ∧ ∃ ini last, pre = ini ++ [last] ∧ last.2 < col ∧ (cntI (ini.map (·.2)) col : Int) + 1 = nn ∧ Boxed W (w.heap.size + 1 + 1) 3 (.int .i64 last.2)) ∧ Below w.heap.size w W)
    (OwnFrom.and (OwnFrom.and (ownFrom_pure _ _) (OwnFrom.and ((boxed_own _ _ _).from _) (OwnFrom.and ((boxed_own _ _ _).from _) ((boxed_own _ _ _).from _)))) (ownFrom_below (Nat.le_refl _) (by simp; omega)))
    (fun c => OwnFrom.and (Own.from (fun s A B row hs hg hr => by obtain ⟨hc, ini, last, e1, e2, e3, e4⟩ := hs; exact ⟨hc, ini, last, e1, e2, e3, (boxed_own _ _ (fun (_ : Unit) => .int .i64 last.2)) () A B row e4 hg hr⟩) _) (ownFrom_below (Nat.le_refl _) (by simp; omega)))
    ⟨⟨by simp [cntI]; omega, bC1, by simpa [cntI] using bN1, bR1⟩, hB0⟩
    (fun x => { tmps := #[.pointer (some ⟨p, 0, none⟩), .int .i64 col, .int .i64 nn, undef, .pointer (some ⟨w.heap.size, 0, none⟩), .pointer (some ⟨w.heap.size + 1, 0, none⟩), .pointer (some ⟨w.heap.size + 1 + 1, 0, none⟩), undef, .int .i64 x.2, .int .i64 nn, .bool (decide (nn < 1)), undef, undef, undef, .pointer (some ⟨p, 0, none⟩), .slice va m cap, .func (.func 41) #[] #[.pointer (some ⟨w1.heap.size, 0, none⟩)], .int .i64 (x.1 : Int), .int .i64 x.2, undef, undef, undef, undef, undef, undef, undef, undef], defers := [] }) ?assign ?body ?done ?stop
  case assign =>
    intro l x W K hK
    gi_wp2
    exact hK
  case body =>
    rintro l pre x W ⟨⟨hcn, hC, hN, hR⟩, hB⟩ _
    obtain ⟨cv, hcv⟩ : ∃ cv, cv = nn - (cntI (pre.map (·.2)) col : Int) := ⟨_, rfl⟩
    have hcv1 : 1 ≤ cv := by omega
    have hcv2 : cv ≤ 9223372036854775807 := by omega
    have hcs := cntI_snoc (pre.map (·.2)) x.2 col
    rw [← hcv] at hN
    have HCV := Lib.hid hcv; have HCS := Lib.hid hcs
    clear hcv hcs
    have c4 := hC.cell
    have c5 := hN.cell
    have f5 := hN.frozen
    have c6 := hR.cell
    have f6 := hR.frozen
    by_cases hx : x.2 < col
    · by_cases h1n : cv = 1
      · subst h1n
        gi_wp2
        refine ⟨((KeepsOthers.setCell _ _ _).from _).trans ((KeepsOthers.setCell _ _ _).from _), ⟨rfl, pre, x, rfl, hx, by have := HCV.out; omega, (hR.other (by omega) _).set _⟩, (hB.setCell (p := ⟨w.heap.size + 1, 0, none⟩) (Nat.le_succ _) _).setCell (p := ⟨w.heap.size + 1 + 1, 0, none⟩) (Nat.le_trans (Nat.le_succ _) (Nat.le_succ _)) _⟩
      · have h1b : (cv - 1 == 0) = false := by simp; omega
        have hcs1 : cntI ((pre ++ [x]).map (·.2)) col = cntI (pre.map (·.2)) col + 1 := by rw [List.map_append, List.map_cons, List.map_nil, HCS.out, if_pos hx]
        gi_wp2
        refine ⟨(KeepsOthers.setCell _ _ _).from _, ⟨by rw [World.size_setCell]; exact Nat.le_refl _, fun k hk => Below.heap_setCell _ _ _ k (hnb5 k hk).1⟩, ⟨?_, hC.other (by omega) _, ?_, hR.other (by omega) _⟩, hB.setCell (p := ⟨w.heap.size + 1, 0, none⟩) (Nat.le_succ _) _⟩
        · rw [hcs1]; have := HCV.out; push_cast; omega
        · rw [hcs1]
          have e : nn - ((cntI (pre.map (·.2)) col + 1 : Nat) : Int) = cv - 1 := by have := HCV.out; push_cast; omega
          rw [e]
          exact hN.set _
    · gi_wp2
      have hx' : ¬ x.2 < col := by omega
      have hcs0 : cntI ((pre ++ [x]).map (·.2)) col = cntI (pre.map (·.2)) col := by rw [List.map_append, List.map_cons, List.map_nil, HCS.out, if_neg hx', Nat.add_zero]
      refine ⟨KeepsFrom.refl _ _, Kb.refl _ _, ⟨?_, hC, ?_, hR⟩, hB⟩
      · rw [hcs0]; exact hcn
      · rw [hcs0, ← HCV.out]; exact hN
  case done =>
    rintro D ys W hD rfl ⟨⟨hcn, hC, hN, hR⟩, hB⟩ hK
    have e : ((upto (bw zs) zs.length).map (·.2)) = zs.reverse := by rw [bw_rev zs _ (Nat.le_refl _), ← List.length_reverse, List.take_length]
    rw [e] at hcn
    have hres : backI zs col nn = 0 := by unfold backI; rw [nthLt_none _ _ _ hn1 hcn]; rfl
    have c6 := hR.cell
    have f6 := hR.frozen
    have HRES := Lib.hid hres
    clear hres
    gi_wp2
    have hK' := (KeepsOthers.setCell W ⟨w.heap.size + 1 + 1, 0, none⟩ (.int .i64 0)).same D _ hK rfl
    refine ⟨by simp, .inl ⟨_, _, rfl, run_takeDeferred hK', ?_⟩⟩
    have hc5 := cell_kept (World.cell?_setCell_same' W ⟨w.heap.size + 1 + 1, 0, none⟩ (.int .i64 0) (by rw [hR.cell]; rfl)) (grownBy_putObj' _ D (.deferred none)) (fun r e => by cases e; exact ⟨_, hK', rfl⟩)
    refine ⟨.int .i64 0, ?_, by rw [HRES.out], (hB.setCell (p := ⟨w.heap.size + 1 + 1, 0, none⟩) (Nat.le_trans (Nat.le_succ _) (Nat.le_succ _)) _).trans (belowK_b (w := w) (Nat.le_refl _) _ D _ _ (by simp at hD; omega) hK' rfl rfl)⟩
    simp [results, Tryd.f12, go_sem, hc5]
  case stop =>
    rintro D c pre W hD ⟨k, hk, rfl⟩ ⟨⟨rfl, ini, last, e1, e2, e3, hR⟩, hB⟩ hK
    have e := bw_rev zs k hk
    rw [e1, List.map_append, List.map_cons, List.map_nil] at e
    have e4 : zs.reverse = ini.map (·.2) ++ last.2 :: zs.reverse.drop k := by
      have := List.take_append_drop k zs.reverse
      rw [← e] at this
      rw [List.append_assoc] at this
      exact this.symm
    have hres : backI zs col nn = last.2 := by unfold backI; rw [e4, nthLt_some _ _ _ _ _ e2 e3]; rfl
    have c6 := hR.cell
    have HRES := Lib.hid hres
    clear hres
    gi_wp2
    refine ⟨by simp, .inl ⟨_, _, rfl, run_takeDeferred hK, ?_⟩⟩
    have hc5 := cell_kept hR.cell (grownBy_putObj' _ D (.deferred none)) (fun r e => by cases e; exact ⟨_, hK, rfl⟩)
    refine ⟨.int .i64 last.2, ?_, by rw [HRES.out], hB.trans (belowK_b (w := w) (Nat.le_refl _) W D _ _ (by simp at hD; omega) hK rfl rfl)⟩
    simp [results, Tryd.f12, go_sem, hc5]
end Go.Proofs.YtjdmobildcgidaaDoor
