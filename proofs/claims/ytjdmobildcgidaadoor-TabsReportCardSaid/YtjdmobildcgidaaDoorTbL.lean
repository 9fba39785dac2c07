/-
  Tab stops: the document's Resize, Put and List.
-/
import Derived.Test.YtjdmobildcgidaaDoorTbK
import Derived.Test.YtjdmobildcgidaaDoorTbE
namespace Go.Proofs.YtjdmobildcgidaaDoor
set_option linter.unusedSimpArgs false
set_option linter.unusedVariables false
open Go.RowKit
set_option linter.unusedVariables false

theorem HasRow.at_ {w : World} {e n : Nat} {v : Value} {xs : List Value} (h : HasRow w e v n xs) {k : Nat} (hk : k < n) : ∃ g cap u, v = .slice (some ⟨g, 0, none⟩) n cap ∧ xs[k]? = some u ∧ w.cell? ⟨g, k, none⟩ = some u := by
  have hl := h.1
  rcases h.2 with ⟨_, h0⟩ | ⟨g, cap, cur, hv, hh, hn, hc, ht⟩
  · omega
  · have hu : xs[k]? = some xs[k] := List.getElem?_eq_getElem (by omega)
    exact ⟨g, cap, _, hv, hu, h.cells (g := g) (by rw [hv]; rfl) k _ hu⟩
def bcs (l : List Bool) : List Value := l.map Value.bool
theorem bcs_len (l : List Bool) : (bcs l).length = l.length := by simp [bcs]
theorem bcs_at {l : List Bool} {k : Nat} {u : Value} (h : (bcs l)[k]? = some u) : u = .bool (l.getD k false) := by
  simp only [bcs, List.getElem?_map] at h
  rcases hx : l[k]? with _ | x
  · rw [hx] at h; cases h
  · rw [hx] at h; simp at h; simp [List.getD, hx, h]
theorem bcs_one (l : List Bool) : ∀ c ∈ bcs l, c.oneCell' = true := by
  intro c hc; obtain ⟨_, _, rfl⟩ := List.mem_map.1 hc; rfl
/-- A slice of yes and no in a block from B on. -/
def BL (B : Nat) (w : World) (v : Value) (l : List Bool) : Prop := HasRow w 4 v l.length (bcs l) ∧ ∀ k, v.ownBlock = some k → B ≤ k
theorem BL.of_own {B : Nat} {w : World} {v : Value} {l : List Bool} {n : Nat} (h : w.ownsRow B 4 1 v n (bcs l)) : BL B w v l := by
  have hn : n = l.length := by have := h.1; rw [bcs_len] at this; omega
  subst hn
  exact ⟨HasRow.of_own h, fun k hk => ownsRow_base h hk⟩
theorem BL.gr {B : Nat} {w w' : World} {v : Value} {l : List Bool} (h : BL B w v l) (hg : Gr w w') : BL B w' v l := ⟨h.1.gr hg, h.2⟩
theorem BL.upd {B : Nat} {w w' : World} {v : Value} {l : List Bool} {K : List Nat} (h : BL B w v l) (hu : Upd K w w') (hK : ∀ k ∈ K, k < B) : BL B w' v l :=
  ⟨h.1.same fun k hk => hu.block k (h.1.blk hk) fun hm => by have := hK k hm; have := h.2 k hk; omega, h.2⟩
theorem BL.le {B B' : Nat} {w : World} {v : Value} {l : List Bool} (h : BL B w v l) (hB : B' ≤ B) : BL B' w v l := ⟨h.1, fun k hk => Nat.le_trans hB (h.2 k hk)⟩
theorem BL.nil (B : Nat) (w : World) : BL B w (.slice none 0 0) [] := ⟨HasRow.nil w _, fun k hk => by cases hk⟩
theorem BL.at_ {B : Nat} {w : World} {v : Value} {l : List Bool} (h : BL B w v l) {k : Nat} (hk : k < l.length) : ∃ g cap, v = .slice (some ⟨g, 0, none⟩) l.length cap ∧ w.cell? ⟨g, k, none⟩ = some (.bool (l.getD k false)) := by
  obtain ⟨g, cap, u, h1, h2, h3⟩ := h.1.at_ hk
  exact ⟨g, cap, h1, by rw [h3, bcs_at h2]⟩
theorem boolsT : Tryd.prog.underlying 25 = some (.slice 4) := Tryd.underlying25
theorem boolI : (Tryd.prog.info? 4).map (fun i => (i.zero, i.size, i.bytes)) = some (some (.bool false), 1, 1) := by kernel_rfl
theorem src_row {e : TypeId} {t : TypeId} {n : Nat} {v : Value} {xs : List Value} {w : World} (ht : Tryd.prog.underlying t = some (.slice e)) (h : HasRow w e v n xs) (h1 : ∀ c ∈ xs, c.oneCell' = true) : Src Tryd.prog 1 t v n xs w := by
  have hl := h.1
  rcases h.2 with ⟨rfl, rfl⟩ | ⟨g, cap, cur, rfl, hh⟩
  · have : xs = [] := List.eq_nil_of_length_eq_zero hl
    subst this; exact src_nil ht 0
  · refine Src.ofSlice w ht _ n cap xs (by omega) (fun j v hv => ?_) h1
    have e : (⟨g, 0, none⟩ : Addr).add j = ⟨g, j, none⟩ := by rcases j with _ | j <;> simp [Addr.add]
    rw [e]
    exact h.cells (g := g) rfl j v hv
/-- A slice of yes and no of the call's own, handed back. -/
def BOut (w : World) (l : List Bool) (e : Ending) (w' : World) : Prop := ∃ v, e = .returned v ∧ BL w.heap.size w' v l ∧ Gr w w'

theorem decZ (r : Nat) : decide (r = 0) = ((r : Int) == 0) := by rw [Bool.eq_iff_iff]; simp
theorem rsz_snoc (l : List Bool) (i : Nat) : (List.range (i + 1)).map (rszB l) = (List.range i).map (rszB l) ++ [rszB l i] := by rw [List.range_succ, List.map_append]; rfl
set_option maxRecDepth 100000 in
set_option maxHeartbeats 4000000 in
theorem rresize_any (B : Nat) (v : Value) (l : List Bool) (c : Int) (w : World) (h : BL B w v l) (hl : l.length ≤ 500) : Calls Tryd.prog 17 #[v, .int .i64 c] w (BOut w (rszL l c)) := by
  obtain ⟨va, cap, rfl⟩ := h.1.form
  have hM5 := clN_le c
  have hcase : (c < 0 ∧ clN c = 0) ∨ (¬ c < 0 ∧ 500 < c ∧ clN c = 500) ∨ (¬ c < 0 ∧ ¬ 500 < c ∧ c = (clN c : Nat)) := by unfold clN; omega
  unfold rszL
  obtain ⟨M, hM⟩ : ∃ M, M = clN c := ⟨_, rfl⟩
  rw [← hM] at hcase hM5 ⊢
  clear hM
  have HL := Lib.hid h
  clear h
  have hstart : ∀ w' : World, w'.ownsRow w.heap.size 4 1 (.slice none 0 0) 0 (bcs ((List.range 0).map (rszB l))) := fun w' => by simpa [bcs] using World.ownsRow_nil w' w.heap.size 4 1
  obtain ⟨N, hN⟩ : ∃ N, N = l.length := ⟨_, rfl⟩
  rw [← hN] at hl
  have HN := Lib.hid hN
  rw [← hN]
  clear hN
  go_enter Tryd.func17, Tryd.ntmps17
  rcases hcase with ⟨h1, h2⟩ | ⟨h1, h2, h3⟩ | ⟨h1, h2, h3⟩
  · have HM := Lib.hid h2
    clear h2
    have hM5 : M ≤ 500 := by have := HM.out; omega
    go_wp2_with fail
    go_loopw [5, 6] (fun ov iv wr => ∃ (i : Nat) (va' : Option Addr) (cap' : Nat), iv = .int .i64 (i : Int) ∧ i ≤ M ∧ ov = .slice va' i cap' ∧ wr.ownsRow w.heap.size 4 1 (.slice va' i cap') i (bcs ((List.range i).map (rszB l))) ∧ Gr w wr) (fun _ iv _ => M - (intOf iv).toNat)
    case atStart => exact ⟨0, none, 0, rfl, Nat.zero_le _, rfl, hstart _, by (repeat (first | with_reducible exact Gr.refl _ | with_reducible assumption | with_reducible refine Gr.setCell ?_ (by simp; try omega) _ | with_reducible refine Gr.alloc ?_ _ | with_reducible refine Gr.drew ?_ | with_reducible refine Gr.drewN ?_ _ | with_reducible refine Gr.trans ?_ (by assumption)))⟩
    case round =>
      obtain ⟨i, va', cap', rfl, hi, rfl, hown, hgr⟩ := hrel
      obtain rfl : i = 0 := by have := HM.out; omega
      have hm0 : List.map (rszB l) (List.range 0) = List.map (rszB l) (List.range M) := by rw [HM.out]
      have HM0 := Lib.hid hm0
      clear hm0
      go_wp2_with fail
      go_ret
      exact ⟨_, rfl, BL.of_own (by rw [← HM0.out]; exact hown), hgr⟩
  · have HM := Lib.hid h3
    clear h3
    go_wp2_with fail
    go_loopw [5, 6] (fun ov iv wr => ∃ (i : Nat) (va' : Option Addr) (cap' : Nat), iv = .int .i64 (i : Int) ∧ i ≤ M ∧ ov = .slice va' i cap' ∧ wr.ownsRow w.heap.size 4 1 (.slice va' i cap') i (bcs ((List.range i).map (rszB l))) ∧ Gr w wr) (fun _ iv _ => M - (intOf iv).toNat)
    case atStart => exact ⟨0, none, 0, rfl, Nat.zero_le _, rfl, hstart _, by (repeat (first | with_reducible exact Gr.refl _ | with_reducible assumption | with_reducible refine Gr.setCell ?_ (by simp; try omega) _ | with_reducible refine Gr.alloc ?_ _ | with_reducible refine Gr.drew ?_ | with_reducible refine Gr.drewN ?_ _ | with_reducible refine Gr.trans ?_ (by assumption)))⟩
    case round =>
      obtain ⟨i, va', cap', rfl, hi, rfl, hown, hgr⟩ := hrel
      by_cases hlt : i < M
      · have hiM : (i : Int) < 500 := by have := HM.out; omega
        have hsn := rsz_snoc l i
        by_cases hil : i < N
        · have hiN : (i : Int) < (N : Int) := by omega
          obtain ⟨g, cap2, hv, hc⟩ := (HL.out.gr hgr).at_ (k := i) (by have := HN.out; omega)
          injection hv with e1 e2 e3
          subst e1
          obtain ⟨b, hb⟩ : ∃ b, b = l.getD i false := ⟨_, rfl⟩
          rw [← hb] at hc
          have hrb : rszB l i = b := by unfold rszB; rw [if_pos (by have := HN.out; omega), hb]
          rw [hrb] at hsn
          have HS := Lib.hid hsn
          clear hsn hrb hb e2 e3
          go_wp2_with (first
            | (at_builtin; (refine wpList_add (w0 := w) rfl _ _ _ _ rfl 4 _ 1 boolsT boolI rfl (by omega) _ i _ rfl (hown.alloc _) (hgr.alloc _) _ 1 [.bool b] rfl (src_block boolsT _ (heap_alloc_new _ _) rfl (by simp [Value.oneCell'])) (by omega) ?_); intro va2 cap3 w3 hown3 hg3))
          go_roundw
          case rel => exact ⟨i + 1, va2, cap3, by go_num, by have := HM.out; omega, rfl, by rw [HS.out]; simpa [bcs] using hown3, hg3⟩
          case measure => simp [intOf]; have := HM.out; omega
        · have hiN : ¬ (i : Int) < (N : Int) := by omega
          have hrb : rszB l i = (decide (0 < i) && decide (i % 8 = 0)) := by unfold rszB; rw [if_neg (by have := HN.out; omega)]
          obtain ⟨r, hr⟩ : ∃ r, i % 8 = r := ⟨_, rfl⟩
          rw [hr] at hrb
          have htm : (i : Int).tmod 8 = (r : Int) := by rw [Int.tmod_eq_emod_of_nonneg (by omega)]; omega
          have HR := Lib.hid hr
          clear hr
          by_cases hi0 : 0 < i
          · have hii : (0 : Int) < (i : Int) := by omega
            obtain ⟨b, hb⟩ : ∃ b, b = ((r : Int) == 0) := ⟨_, rfl⟩
            have hb2 : ((r : Int) == 0) = b := hb.symm
            have hrb2 : rszB l i = b := by rw [hrb, hb, decZ]; simp [hi0]
            rw [hrb2] at hsn
            have HS := Lib.hid hsn
            clear hsn hrb hrb2 hb
            go_wp2_with (first
              | (at_builtin; (refine wpList_add (w0 := w) rfl _ _ _ _ rfl 4 _ 1 boolsT boolI rfl (by omega) _ i _ rfl (hown.alloc _) (hgr.alloc _) _ 1 [.bool b] rfl (src_block boolsT _ (heap_alloc_new _ _) rfl (by simp [Value.oneCell'])) (by omega) ?_); intro va2 cap3 w3 hown3 hg3))
            go_roundw
            case rel => exact ⟨i + 1, va2, cap3, by go_num, by have := HM.out; omega, rfl, by rw [HS.out]; simpa [bcs] using hown3, hg3⟩
            case measure => simp [intOf]; have := HM.out; omega
          · obtain rfl : i = 0 := by omega
            have hrb2 : rszB l 0 = false := by rw [hrb]; simp
            rw [hrb2] at hsn
            have HS := Lib.hid hsn
            clear hsn hrb hrb2 htm
            go_wp2_with (first
              | (at_builtin; (refine wpList_add (w0 := w) rfl _ _ _ _ rfl 4 _ 1 boolsT boolI rfl (by omega) _ 0 _ rfl (hown.alloc _) (hgr.alloc _) _ 1 [.bool false] rfl (src_block boolsT _ (heap_alloc_new _ _) rfl (by simp [Value.oneCell'])) (by omega) ?_); intro va2 cap3 w3 hown3 hg3))
            go_roundw
            case rel => exact ⟨0 + 1, va2, cap3, by go_num, by have := HM.out; omega, rfl, by rw [HS.out]; simpa [bcs] using hown3, hg3⟩
            case measure => simp [intOf]; have := HM.out; omega
      · obtain rfl : i = M := by omega
        have hni : ¬ (i : Int) < 500 := by have := HM.out; omega
        go_wp2_with fail
        go_ret
        exact ⟨_, rfl, BL.of_own hown, hgr⟩
  · subst h3
    have HM : Hid (0 ≤ M) := Lib.hid (Nat.zero_le M)
    go_wp2_with fail
    go_loopw [5, 6] (fun ov iv wr => ∃ (i : Nat) (va' : Option Addr) (cap' : Nat), iv = .int .i64 (i : Int) ∧ i ≤ M ∧ ov = .slice va' i cap' ∧ wr.ownsRow w.heap.size 4 1 (.slice va' i cap') i (bcs ((List.range i).map (rszB l))) ∧ Gr w wr) (fun _ iv _ => M - (intOf iv).toNat)
    case atStart => exact ⟨0, none, 0, rfl, Nat.zero_le _, rfl, hstart _, by (repeat (first | with_reducible exact Gr.refl _ | with_reducible assumption | with_reducible refine Gr.setCell ?_ (by simp; try omega) _ | with_reducible refine Gr.alloc ?_ _ | with_reducible refine Gr.drew ?_ | with_reducible refine Gr.drewN ?_ _ | with_reducible refine Gr.trans ?_ (by assumption)))⟩
    case round =>
      obtain ⟨i, va', cap', rfl, hi, rfl, hown, hgr⟩ := hrel
      by_cases hlt : i < M
      · have hiM : (i : Int) < (M : Int) := by have := HM.out; omega
        have hsn := rsz_snoc l i
        by_cases hil : i < N
        · have hiN : (i : Int) < (N : Int) := by omega
          obtain ⟨g, cap2, hv, hc⟩ := (HL.out.gr hgr).at_ (k := i) (by have := HN.out; omega)
          injection hv with e1 e2 e3
          subst e1
          obtain ⟨b, hb⟩ : ∃ b, b = l.getD i false := ⟨_, rfl⟩
          rw [← hb] at hc
          have hrb : rszB l i = b := by unfold rszB; rw [if_pos (by have := HN.out; omega), hb]
          rw [hrb] at hsn
          have HS := Lib.hid hsn
          clear hsn hrb hb e2 e3
          go_wp2_with (first
            | (at_builtin; (refine wpList_add (w0 := w) rfl _ _ _ _ rfl 4 _ 1 boolsT boolI rfl (by omega) _ i _ rfl (hown.alloc _) (hgr.alloc _) _ 1 [.bool b] rfl (src_block boolsT _ (heap_alloc_new _ _) rfl (by simp [Value.oneCell'])) (by omega) ?_); intro va2 cap3 w3 hown3 hg3))
          go_roundw
          case rel => exact ⟨i + 1, va2, cap3, by go_num, by have := HM.out; omega, rfl, by rw [HS.out]; simpa [bcs] using hown3, hg3⟩
          case measure => simp [intOf]; have := HM.out; omega
        · have hiN : ¬ (i : Int) < (N : Int) := by omega
          have hrb : rszB l i = (decide (0 < i) && decide (i % 8 = 0)) := by unfold rszB; rw [if_neg (by have := HN.out; omega)]
          obtain ⟨r, hr⟩ : ∃ r, i % 8 = r := ⟨_, rfl⟩
          rw [hr] at hrb
          have htm : (i : Int).tmod 8 = (r : Int) := by rw [Int.tmod_eq_emod_of_nonneg (by omega)]; omega
          have HR := Lib.hid hr
          clear hr
          by_cases hi0 : 0 < i
          · have hii : (0 : Int) < (i : Int) := by omega
            obtain ⟨b, hb⟩ : ∃ b, b = ((r : Int) == 0) := ⟨_, rfl⟩
            have hb2 : ((r : Int) == 0) = b := hb.symm
            have hrb2 : rszB l i = b := by rw [hrb, hb, decZ]; simp [hi0]
            rw [hrb2] at hsn
            have HS := Lib.hid hsn
            clear hsn hrb hrb2 hb
            go_wp2_with (first
              | (at_builtin; (refine wpList_add (w0 := w) rfl _ _ _ _ rfl 4 _ 1 boolsT boolI rfl (by omega) _ i _ rfl (hown.alloc _) (hgr.alloc _) _ 1 [.bool b] rfl (src_block boolsT _ (heap_alloc_new _ _) rfl (by simp [Value.oneCell'])) (by omega) ?_); intro va2 cap3 w3 hown3 hg3))
            go_roundw
            case rel => exact ⟨i + 1, va2, cap3, by go_num, by have := HM.out; omega, rfl, by rw [HS.out]; simpa [bcs] using hown3, hg3⟩
            case measure => simp [intOf]; have := HM.out; omega
          · obtain rfl : i = 0 := by omega
            have hrb2 : rszB l 0 = false := by rw [hrb]; simp
            rw [hrb2] at hsn
            have HS := Lib.hid hsn
            clear hsn hrb hrb2 htm
            go_wp2_with (first
              | (at_builtin; (refine wpList_add (w0 := w) rfl _ _ _ _ rfl 4 _ 1 boolsT boolI rfl (by omega) _ 0 _ rfl (hown.alloc _) (hgr.alloc _) _ 1 [.bool false] rfl (src_block boolsT _ (heap_alloc_new _ _) rfl (by simp [Value.oneCell'])) (by omega) ?_); intro va2 cap3 w3 hown3 hg3))
            go_roundw
            case rel => exact ⟨0 + 1, va2, cap3, by go_num, by have := HM.out; omega, rfl, by rw [HS.out]; simpa [bcs] using hown3, hg3⟩
            case measure => simp [intOf]; have := HM.out; omega
      · obtain rfl : i = M := by omega
        have hni : ¬ (i : Int) < (i : Int) := by have := HM.out; omega
        go_wp2_with fail
        go_ret
        exact ⟨_, rfl, BL.of_own hown, hgr⟩
end Go.Proofs.YtjdmobildcgidaaDoor
