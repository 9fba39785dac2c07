/-
  The law TokenKeeps, walked.
-/
import Derived.Test.YtgbmjlajheeciaaDoorZTkKc
namespace Go.Proofs.YtgbmjlajheeciaaDoor
set_option linter.unusedSimpArgs false
set_option linter.unusedVariables false
open Go.RowKit
set_option linter.unusedVariables false

/-- What holds while the copy and the bytes are written: the token that was copied and the other bytes are as they were. -/
structure KS (wX : World) (Y BP BC : Nat) (k c m : Int) (s : ByteArray) (p d : Value) (n1 n2 : Nat) (cv : Value) (cn : Nat) (lc : List Int) (w' : World) : Prop where
  gr : Gr wX w'
  ybox : w'.heap[Y]? = some (.cells #[.int .i64 k, .int .u8 c, .int .u8 m, p, .string s, d] 27 (0, 0))
  crow : w'.ownsRow BC 5 1 cv cn (bcells lc)
  prow : ∃ ps' : List Int, w'.ownsRow BP 3 1 p n1 (icells ps')
  drow : ∃ d' : List Int, w'.ownsRow BP 5 1 d n2 (bcells d')
  pb : ∀ g, p.ownBlock = some g → g < Y
  db : ∀ g, d.ownBlock = some g → g < Y
  hB : wX.heap.size ≤ BP
  hX : wX.heap.size ≤ Y
  hC : Y < BC
theorem KS.grow {wX w1 w2 : World} {Y BP BC : Nat} {k c m : Int} {s : ByteArray} {p d cv : Value} {n1 n2 cn : Nat} {lc : List Int} (h : KS wX Y BP BC k c m s p d n1 n2 cv cn lc w1) (hg : Gr w1 w2) : KS wX Y BP BC k c m s p d n1 n2 cv cn lc w2 := by
  obtain ⟨h1, h2, h3, ⟨ps', h4⟩, ⟨d', h5⟩, h6, h7, h8, h9, h10⟩ := h
  exact ⟨h1.trans hg, hg.blk h2, ownsRow_gr h3 hg, ⟨ps', ownsRow_gr h4 hg⟩, ⟨d', ownsRow_gr h5 hg⟩, h6, h7, h8, h9, h10⟩
theorem KS.setB {wX w1 : World} {Y BP BC : Nat} {k c m : Int} {s : ByteArray} {p d cv : Value} {n1 n2 cn : Nat} {lc : List Int} (h : KS wX Y BP BC k c m s p d n1 n2 cv cn lc w1) {g j : Nat} (u : Value) (hY : Y < g) (hC : g < BC) : KS wX Y BP BC k c m s p d n1 n2 cv cn lc (w1.setCell ⟨g, j, none⟩ u) := by
  obtain ⟨h1, h2, h3, ⟨ps', h4⟩, ⟨d', h5⟩, h6, h7, h8, h9, h10⟩ := h
  exact ⟨h1.setCell (by simp; omega) u, blk_far h2 (by simp; omega) u, ownsRow_setCell_below h3 hC u, ⟨ps', ownsRow_setCell_other h4 (fun e => by have := h6 _ e; simp at this; omega) u⟩, ⟨d', ownsRow_setCell_other h5 (fun e => by have := h7 _ e; simp at this; omega) u⟩, h6, h7, h8, h9, h10⟩
theorem KS.setP {wX w1 : World} {Y BP BC : Nat} {k c m : Int} {s : ByteArray} {d cv : Value} {n1 n2 cn pc : Nat} {lc : List Int} {g j : Nat} (h : KS wX Y BP BC k c m s (.slice (some ⟨g, 0, none⟩) n1 pc) d n1 n2 cv cn lc w1) (x : Int) (hj : j < n1) : KS wX Y BP BC k c m s (.slice (some ⟨g, 0, none⟩) n1 pc) d n1 n2 cv cn lc (w1.setCell ⟨g, j, none⟩ (.int .i64 x)) := by
  obtain ⟨h1, h2, h3, ⟨ps', h4⟩, ⟨d', h5⟩, h6, h7, h8, h9, h10⟩ := h
  have hg := h6 g rfl
  have hgB := ownsRow_base h4 (k := g) rfl
  refine ⟨h1.setCell (by simp; omega) _, blk_far h2 (by simp; omega) _, ownsRow_setCell_below h3 (by simp; omega) _, ⟨ps'.set j x, ?_⟩, ⟨d', ownsRow_setCell_other h5 (a := ⟨g, j, none⟩) (own_apart h4 h5 (by decide) rfl) _⟩, h6, h7, h8, h9, h10⟩
  rw [← icells_set]
  exact own_put h4 hj
theorem KS.setD {wX w1 : World} {Y BP BC : Nat} {k c m : Int} {s : ByteArray} {p cv : Value} {n1 n2 cn pc : Nat} {lc : List Int} {g j : Nat} (h : KS wX Y BP BC k c m s p (.slice (some ⟨g, 0, none⟩) n2 pc) n1 n2 cv cn lc w1) (x : Int) (hj : j < n2) : KS wX Y BP BC k c m s p (.slice (some ⟨g, 0, none⟩) n2 pc) n1 n2 cv cn lc (w1.setCell ⟨g, j, none⟩ (.int .u8 x)) := by
  obtain ⟨h1, h2, h3, ⟨ps', h4⟩, ⟨d', h5⟩, h6, h7, h8, h9, h10⟩ := h
  have hg := h7 g rfl
  have hgB := ownsRow_base h5 (k := g) rfl
  refine ⟨h1.setCell (by simp; omega) _, blk_far h2 (by simp; omega) _, ownsRow_setCell_below h3 (by simp; omega) _, ⟨ps', ownsRow_setCell_other h4 (a := ⟨g, j, none⟩) (own_apart h5 h4 (by decide) rfl) _⟩, ⟨d'.set j x, ?_⟩, h6, h7, h8, h9, h10⟩
  rw [← bcells_set]
  exact own_put h5 hj
theorem own_le {w : World} {B e n : Nat} {v : Value} {xs : List Value} (h : w.ownsRow B e 1 v n xs) : n ≤ maxLen := by
  rcases h.2 with ⟨_, h2⟩ | ⟨g, cap, cur, hv, hg, hh, hn, hm, r⟩
  · omega
  · omega
theorem KS.ylt {wX w1 : World} {Y BP BC : Nat} {k c m : Int} {s : ByteArray} {p d cv : Value} {n1 n2 cn : Nat} {lc : List Int} (h : KS wX Y BP BC k c m s p d n1 n2 cv cn lc w1) : Y < w1.heap.size := (Array.getElem?_eq_some_iff.1 h.ybox).1
/-- A row has no elements or a block. -/
theorem own_or {w : World} {B e n c : Nat} {a : Option Addr} {xs : List Value} (h : w.ownsRow B e 1 (.slice a n c) n xs) : n = 0 ∨ ∃ g, a = some ⟨g, 0, none⟩ ∧ B ≤ g ∧ g < w.heap.size := by
  rcases h.2 with ⟨h2, _⟩ | ⟨g, cap, cur, hv, hg, hh, r⟩
  · injection h2 with _ h2 _; exact .inl h2
  · injection hv with e1 _ _
    exact .inr ⟨g, e1, hg, (Array.getElem?_eq_some_iff.1 hh).1⟩

set_option maxRecDepth 100000 in
set_option maxHeartbeats 8000000 in
theorem keeps_walk {w : World} {T : Tok} {k c m r : Int} {s : ByteArray} {a1 b1 : Option Addr} {n1 d1 o1 e1 : Nat} (K : TokKit w T k c m s a1 b1 n1 d1 o1 e1 r) (KK : KeepKit w T k c m s n1 o1 r) (hT : tabT w) (hn1 : n1 * 8 ≤ 140737488351232) (ho1 : o1 ≤ 140737488351232) :
    Calls Tryd.prog 6 #[.agg #[.int .i64 k, .int .u8 c, .int .u8 m, .slice a1 n1 d1, .string s, .slice b1 o1 e1]] w fun e w' => e = .returned (.bool true) ∧ Gr w w' := by
  have haw := fun (W : World) (hg : Gr w W) => awake11 (hT.gr hg)
  have hb1 := heap_alloc_new w (.cells #[.int .i64 k, .int .u8 c, .int .u8 m, .slice a1 n1 d1, .string s, .slice b1 o1 e1] 25)
  have hw0 := (Gr.refl w).alloc (.cells #[.int .i64 k, .int .u8 c, .int .u8 m, .slice a1 n1 d1, .string s, .slice b1 o1 e1] 25)
  go_enter Tryd.func6, Tryd.ntmps6
  go_upto_region 1 with (fail)
  obtain ⟨wb, hwb⟩ : ∃ wb, wb = w.alloc (.cells #[.int .i64 k, .int .u8 c, .int .u8 m, .slice a1 n1 d1, .string s, .slice b1 o1 e1] 25) := ⟨_, rfl⟩
  rw [← hwb] at hb1 hw0 ⊢
  have hS := fun (w9 : World) (hg : Gr wb w9) => cells6 (hg.blk hb1)
  have hbz : w.heap.size < wb.heap.size := by rw [hwb]; simp
  clear hwb hb1
  go_upto_region 3 with (go_at_call 8; (with_reducible refine (haw _ hw0).mono ?_); rintro e wR ⟨rfl, hgbR⟩)
  obtain ⟨t0, t1, t2, t3, t4, t5, tf⟩ := hS _ hgbR
  have hgR := hw0.trans hgbR
  go_upto_region 4 with (go_at_call 9; (with_reducible refine (K.own _ hgR).mono ?_); rintro e wO ⟨pa, pc, da, dc, rfl, hO, hgO⟩)
  obtain ⟨wX, hwX⟩ : ∃ wX, wX = wO.alloc (.cells #[.int .i64 k, .int .u8 c, .int .u8 m, .slice pa n1 pc, .string s, .slice da o1 dc] 27) := ⟨_, rfl⟩
  rw [← hwX]
  have hbX := heap_alloc_new wO (.cells #[.int .i64 k, .int .u8 c, .int .u8 m, .slice pa n1 pc, .string s, .slice da o1 dc] 27)
  have hgX := (Gr.refl wO).alloc (.cells #[.int .i64 k, .int .u8 c, .int .u8 m, .slice pa n1 pc, .string s, .slice da o1 dc] 27)
  rw [← hwX] at hbX hgX
  have hXz : wO.heap.size < wX.heap.size := by rw [hwX]; simp
  clear hwX t0 t1 t2 t3 t4 t5 tf
  have hR := hO.r.gr hgX
  have hgwX : Gr w wX := (hgR.trans hgO).trans hgX
  have hcX := fun (w9 : World) (hg : Gr wX w9) => cells6 (hg.blk hbX)
  obtain ⟨t0, t1, t2, t3, t4, t5, tf⟩ := hcX _ (Gr.refl _)
  go_upto_region 5 with (go_at_call 20; (with_reducible refine (KK.copy _ _ _ _ _ hR).mono ?_); rintro e wV ⟨va, ca, vb, cb, rfl, hOY, hgV⟩)
  obtain ⟨wY, hwY⟩ : ∃ wY, wY = wV.alloc (.cells #[.int .i64 k, .int .u8 c, .int .u8 m, .slice va n1 ca, .string s, .slice vb o1 cb] 27) := ⟨_, rfl⟩
  rw [← hwY]
  have hbY := heap_alloc_new wV (.cells #[.int .i64 k, .int .u8 c, .int .u8 m, .slice va n1 ca, .string s, .slice vb o1 cb] 27)
  have hgY := (Gr.refl wV).alloc (.cells #[.int .i64 k, .int .u8 c, .int .u8 m, .slice va n1 ca, .string s, .slice vb o1 cb] 27)
  rw [← hwY] at hbY hgY
  have hYz : wV.heap.size < wY.heap.size := by rw [hwY]; simp
  clear hwY t0 t1 t2 t3 t4 t5 tf
  have hgXY := hgV.trans hgY
  obtain ⟨t0, t1, t2, t3, t4, t5, tf⟩ := hcX _ hgXY
  go_upto_region 6 with (go_at_call 14; (with_reducible refine (KK.bytes _ _ _ _ _ (hR.gr hgXY) (hgwX.trans hgXY) _).mono ?_); rintro e wB ⟨ba, bc, lb, rfl, _, hrB, hgB⟩)
  clear t0 t1 t2 t3 t4 t5 tf
  have hgXB := hgXY.trans hgB
  obtain ⟨t0, t1, t2, t3, t4, t5, tf⟩ := hcX _ hgXB
  go_upto_region 7 with (go_at_call 14; (with_reducible refine (KK.bytes _ _ _ _ _ (hR.gr hgXB) (hgwX.trans hgXB) _).mono ?_); rintro e wC ⟨xa, xc, lc, rfl, hlc, hrC, hgC⟩)
  clear t0 t1 t2 t3 t4 t5 tf
  have hn1' := K.len1
  have ho1' := K.len2
  have hpY := hOY.params
  have hdY := hOY.data
  simp only at hpY hdY
  rw [hn1'] at hpY
  rw [ho1'] at hdY
  have hKS : KS wX wV.heap.size wX.heap.size wB.heap.size k c m s (.slice va n1 ca) (.slice vb o1 cb) n1 o1 (.slice xa lc.length xc) lc.length lc wC :=
    ⟨hgXB.trans hgC, (hgB.trans hgC).blk hbY, hrC, ⟨_, ownsRow_gr (ownsRow_gr (ownsRow_gr hpY hgY) hgB) hgC⟩, ⟨_, ownsRow_gr (ownsRow_gr (ownsRow_gr hdY hgY) hgB) hgC⟩,
      fun g hg => ownsRow_blk hpY hg, fun g hg => ownsRow_blk hdY hg, Nat.le_refl _, hgV.size, Nat.lt_of_lt_of_le hYz hgB.size⟩
  have hbrow := ownsRow_gr hrB hgC
  have hbor : lb.length = 0 ∨ ∃ g, ba = some ⟨g, 0, none⟩ ∧ wV.heap.size < g ∧ g < wB.heap.size := by
    rcases own_or hrB with h | ⟨g, h1, h2, h3⟩
    · exact .inl h
    · exact .inr ⟨g, h1, by omega, h3⟩
  clear hn1' ho1' hpY hdY hrB hrC hbY hgY hgB hgC hgXY hgXB hgV hOY
  obtain ⟨bn, hbn⟩ : ∃ bn, bn = lb.length := ⟨_, rfl⟩
  rw [← hbn] at hbrow hbor ⊢
  have hbn63 : bn ≤ maxLen := (own_le hbrow)
  clear hbn
  go_wp2_with fail
  have hbr : ∃ l' : List Int, wC.ownsRow wY.heap.size 5 1 (.slice ba bn bc) bn (bcells l') := ⟨_, hbrow⟩
  clear hbrow
  go_loopw [30, 9] (fun iv _ wr => ∃ j : Nat, iv = .int .i64 (j : Int) ∧ j ≤ bn ∧ KS wX wV.heap.size wX.heap.size wB.heap.size k c m s (.slice va n1 ca) (.slice vb o1 cb) n1 o1 (.slice xa lc.length xc) lc.length lc wr ∧ ∃ l' : List Int, wr.ownsRow wY.heap.size 5 1 (.slice ba bn bc) bn (bcells l')) (fun iv _ _ => bn - (intOf iv).toNat)
  case atStart => exact ⟨0, rfl, Nat.zero_le _, hKS, hbr⟩
  case round =>
    clear hKS hbr
    obtain ⟨j, rfl, hj, hKS, l', hbr⟩ := hrel
    unfold maxLen at hbn63
    by_cases hlt : j < bn
    · rcases hbor with hz | ⟨g, rfl, hg1, hg2⟩
      · omega
      · have hjl : j < (bcells l').length := by rw [hbr.1]; omega
        have hsome : ∃ x, (bcells l')[j]? = some (.int .u8 x) := by
          rw [List.getElem?_eq_getElem hjl]
          simp [bcells]
        obtain ⟨x, hx⟩ := hsome
        obtain ⟨hcell, hfro⟩ := own_cellAt hbr hx
        have hjI : (j : Int) < (bn : Int) := by omega
        have hjB : (j : Int) < 9223372036854775807 := by omega
        have hnext := fun u => hKS.setB (j := j) u hg1 hg2
        have hput : ∀ x, ∃ l2 : List Int, (wr.setCell ⟨g, j, none⟩ (.int .u8 x)).ownsRow wY.heap.size 5 1 (.slice (some ⟨g, 0, none⟩) bn bc) bn (bcells l2) := fun x => ⟨l'.set j x, by rw [← bcells_set]; exact own_put hbr hlt⟩
        clear hx hjl
        go_wp2_with fail
        go_roundw
        case rel => exact ⟨j + 1, by go_num, by omega, hnext _, hput _⟩
        case measure => simp [intOf]; omega
    · obtain rfl : bn = j := by omega
      clear hbr hbor
      obtain ⟨t0, t1, t2, t3, t4, t5, tf⟩ := cells6 hKS.ybox
      go_wp2_with fail
      go_loopw [43, 10] (fun iv _ wr => ∃ j : Nat, iv = .int .i64 (j : Int) ∧ j ≤ n1 ∧ KS wX wV.heap.size wX.heap.size wB.heap.size k c m s (.slice va n1 ca) (.slice vb o1 cb) n1 o1 (.slice xa lc.length xc) lc.length lc wr) (fun iv _ _ => n1 - (intOf iv).toNat)
      case atStart => exact ⟨0, rfl, Nat.zero_le _, hKS⟩
      case round =>
        clear hKS t0 t1 t2 t3 t4 t5 tf
        obtain ⟨j, rfl, hj, hKS⟩ := hrel
        obtain ⟨t0, t1, t2, t3, t4, t5, tf⟩ := cells6 hKS.ybox
        by_cases hlt : j < n1
        · obtain ⟨l', hl'⟩ := hKS.prow
          rcases own_or hl' with hz | ⟨g, rfl, hg1, hg2⟩
          · omega
          · have hjl : j < (icells l').length := by rw [hl'.1]; omega
            have hsome : ∃ x, (icells l')[j]? = some (.int .i64 x) := by
              rw [List.getElem?_eq_getElem hjl]
              simp [icells]
            obtain ⟨x, hx⟩ := hsome
            obtain ⟨hcell, hfro⟩ := own_cellAt hl' hx
            have hjI : (j : Int) < (n1 : Int) := by omega
            have hjB : (j : Int) < 9223372036854775807 := by omega
            have hnext := fun x => hKS.setP x hlt
            clear hx hjl hl'
            go_wp2_with fail
            go_roundw
            case rel => exact ⟨j + 1, by go_num, by omega, hnext _⟩
            case measure => simp [intOf]; omega
        · obtain rfl : n1 = j := by omega
          go_wp2_with fail
          go_loopw [57, 11] (fun iv _ wr => ∃ j : Nat, iv = .int .i64 (j : Int) ∧ j ≤ o1 ∧ KS wX wV.heap.size wX.heap.size wB.heap.size k c m s (.slice va n1 ca) (.slice vb o1 cb) n1 o1 (.slice xa lc.length xc) lc.length lc wr) (fun iv _ _ => o1 - (intOf iv).toNat)
          case atStart => exact ⟨0, rfl, Nat.zero_le _, hKS⟩
          case round =>
            clear hKS t0 t1 t2 t3 t4 t5 tf
            obtain ⟨j, rfl, hj, hKS⟩ := hrel
            obtain ⟨t0, t1, t2, t3, t4, t5, tf⟩ := cells6 hKS.ybox
            by_cases hlt : j < o1
            · obtain ⟨l', hl'⟩ := hKS.drow
              rcases own_or hl' with hz | ⟨g, rfl, hg1, hg2⟩
              · omega
              · have hjl : j < (bcells l').length := by rw [hl'.1]; omega
                have hsome : ∃ x, (bcells l')[j]? = some (.int .u8 x) := by
                  rw [List.getElem?_eq_getElem hjl]
                  simp [bcells]
                obtain ⟨x, hx⟩ := hsome
                obtain ⟨hcell, hfro⟩ := own_cellAt hl' hx
                have hjI : (j : Int) < (o1 : Int) := by omega
                have hjB : (j : Int) < 9223372036854775807 := by omega
                have hnext := fun x => hKS.setD x hlt
                clear hx hjl hl'
                go_wp2_with fail
                go_roundw
                case rel => exact ⟨j + 1, by go_num, by omega, hnext _⟩
                case measure => simp [intOf]; omega
            · obtain rfl : o1 = j := by omega
              go_upto_region 22 with (fail)
              obtain ⟨p, hp⟩ : ∃ p : Value, p = .slice va n1 ca := ⟨_, rfl⟩
              obtain ⟨d, hd⟩ : ∃ d : Value, d = .slice vb o1 cb := ⟨_, rfl⟩
              rw [← hp] at hKS t3
              rw [← hd] at hKS t5
              have hKR := hKS.ylt
              clear hp hd
              refine wp_region_facts7 (kpF wV.heap.size wr.heap.size p d n1 o1) (fun _ _ _ _ => True) (fun _ _ => false) (kpG wV.heap.size wX.heap.size p d n1 o1) (KpB wX wV.heap.size wX.heap.size wB.heap.size wr.heap.size k c m s p d (.slice xa lc.length xc) lc.length lc) (by kernel_rfl) (by kernel_rfl) (by kernel_rfl) ?_ ⟨hKS.gr.drew, by simp, ⟨p, d, (Gr.refl wr).drew.blk hKS.ybox⟩, ownsRow_gr hKS.crow (Gr.refl wr).drew, hKS.pb, hKS.db, hKS.hB, hKS.hX, hKS.hC, hKR⟩ (fun j => by
                refine kpG.gr ?_ ((Gr.refl wr).drew)
                unfold kpG
                split <;> first | exact hKS.prow | exact hKS.drow | exact t3 | exact t5 | trivial) ?_ ?_
              · intro j o ho ys zs w' hj he hF
                unfold kpF at hF ⊢
                split at hF <;> first | (simp only [← hj]; exact hF) | exact hF | trivial
              · refine Steps7.cons1 1 rfl rfl ?_ (Steps7.cons1 2 rfl rfl ?_ (Steps7.cons1 3 rfl rfl ?_ (Steps7.cons1 4 rfl rfl ?_ (Steps7.cons1 5 rfl rfl ?_ (Steps7.cons1 6 rfl rfl ?_ (Steps7.cons1 7 rfl rfl ?_ (Steps7.cons1 8 rfl rfl ?_ (Steps7.cons1 9 rfl rfl ?_ (Steps7.cons1 10 rfl rfl ?_ (Steps7.cons1 11 rfl rfl ?_ (Steps7.cons1 12 rfl rfl ?_ (Steps7.nil))))))))))))
                · (intro L ys w' hB hD hP hn; simp only [LAll, Region.binds, forall_const, and_true, true_and] at hP)
                  intro K hK
                  simp only [fillA]
                  go_simp
                  have h2 := hK (.pointer (some ⟨wV.heap.size, 3, none⟩)) w' hB (setY_at ys 0 _) (fun j _ _ h => h) (fun j _ _ h => h) (fun j _ => ⟨fun _ => trivial, fun _ => trivial⟩)
                  simp [fillA, Act.put] at h2
                  exact h2
                · (intro L ys w' hB hD hP hn; simp only [LAll, Region.binds, forall_const, and_true, true_and] at hP)
                  have f0 : ys 0 = .pointer (some ⟨wV.heap.size, 3, none⟩) := hD.fact 0 (by first | exact hP | exact hP.1 | exact hP.2.1 | exact hP.2.2.1 | exact hP.2.2.2.1 | exact hP.2.2.2.2 | exact hP.2 | exact hP.2.2 | exact hP.2.2.2) (fun _ _ => rfl)
                  have q3 : w'.cell? ⟨wV.heap.size, 3, none⟩ = some p := hD.yet 9 (fun h => hn (hD.back 3 _ (hD.back 9 _ h rfl ⟨3, .data⟩ (by simp) rfl) rfl ⟨1, .data⟩ (by simp) rfl))
                  intro K hK
                  simp only [fillA]
                  go_simp
                  have h2 := hK p w' hB (setY_at ys 1 _) (fun j _ _ h => h) (fun j _ _ h => h) (fun j _ => ⟨fun _ => trivial, fun _ => trivial⟩)
                  simp [fillA, Act.put, f0] at h2
                  exact h2
                · (intro L ys w' hB hD hP hn; simp only [LAll, Region.binds, forall_const, and_true, true_and] at hP)
                  intro K hK
                  simp only [fillA]
                  go_simp
                  have h2 := hK (.slice (some ⟨w'.heap.size, 0, none⟩) 1 1) (w'.alloc (.cells #[.int .i64 1] 3)) (hB.gr' ((Gr.refl _).alloc _)) ⟨_, setY_at ys 2 _, hB.size, heap_alloc_new _ _⟩ (fun j _ _ h => h.gr ((Gr.refl _).alloc _)) (fun j _ _ h => h.gr ((Gr.refl _).alloc _)) (fun j _ => ⟨fun _ => trivial, fun _ => trivial⟩)
                  simp [fillA, Act.put] at h2 ⊢
                  exact h2
                · (intro L ys w' hB hD hP hn; simp only [LAll, Region.binds, forall_const, and_true, true_and] at hP)
                  have f1 : ys 1 = p := hD.fact 1 (by first | exact hP | exact hP.1 | exact hP.2.1 | exact hP.2.2.1 | exact hP.2.2.2.1 | exact hP.2.2.2.2 | exact hP.2 | exact hP.2.2 | exact hP.2.2.2) (fun _ _ => rfl)
                  obtain ⟨g, f2, hge, hgb⟩ : ∃ g, ys 2 = .slice (some ⟨g, 0, none⟩) 1 1 ∧ wr.heap.size ≤ g ∧ w'.heap[g]? = some (.cells #[.int .i64 1] 3 (0, 0)) := hD.fact 2 (by first | exact hP | exact hP.1 | exact hP.2.1 | exact hP.2.2.1 | exact hP.2.2.2.1 | exact hP.2.2.2.2 | exact hP.2 | exact hP.2.2 | exact hP.2.2.2) (fun _ _ => rfl)
                  obtain ⟨lp, hrp⟩ : ∃ l : List Int, w'.ownsRow wX.heap.size 3 1 p n1 (icells l) := hD.yet 3 hn
                  have hz : wX.heap.size ≤ w'.heap.size := hB.gr.size
                  intro K hK
                  with_reducible refine wp_addW (.tmp 69) (.tmp 70) 22 22 ?ho3 3 (.int .i64 0) 8 intsT intI ?hz3 wX.heap.size p n1 (icells lp) ?hx3 hrp hz (.slice (some ⟨g, 0, none⟩) 1 1) 1 [.int .i64 1] ?hy3 (src_block intsT [.int .i64 1] hgb rfl ?h13) ?hn3 ?hb3 ?hh3
                  case ho3 => rfl
                  case hz3 => rfl
                  case h13 => simp [Value.oneCell']
                  case hx3 => simp [Act.eval, fillA, Act.put, f1]
                  case hy3 => simp [Act.eval, fillA, Act.put, f2]
                  case hn3 => unfold maxLen; omega
                  case hb3 => omega
                  case hh3 =>
                    intro xa2 xc2 w2 hown hgb2
                    exact hK _ w2 (hB.grown hrp hB.pb hgb2) ⟨xa2, xc2, setY_at ys 3 _⟩ (fun j _ _ h => h.grown hB.pb hB.hR hgb2) (fun j _ hne h => h.grownP hne hrp hB.pb hgb2) (fun j _ => ⟨fun _ => trivial, fun _ => trivial⟩)
                · (intro L ys w' hB hD hP hn; simp only [LAll, Region.binds, forall_const, and_true, true_and] at hP)
                  intro K hK
                  simp only [fillA]
                  go_simp
                  have h2 := hK (.pointer (some ⟨wV.heap.size, 5, none⟩)) w' hB (setY_at ys 4 _) (fun j _ _ h => h) (fun j _ _ h => h) (fun j _ => ⟨fun _ => trivial, fun _ => trivial⟩)
                  simp [fillA, Act.put] at h2
                  exact h2
                · (intro L ys w' hB hD hP hn; simp only [LAll, Region.binds, forall_const, and_true, true_and] at hP)
                  have f4 : ys 4 = .pointer (some ⟨wV.heap.size, 5, none⟩) := hD.fact 4 (by first | exact hP | exact hP.1 | exact hP.2.1 | exact hP.2.2.1 | exact hP.2.2.2.1 | exact hP.2.2.2.2 | exact hP.2 | exact hP.2.2 | exact hP.2.2.2) (fun _ _ => rfl)
                  have q5 : w'.cell? ⟨wV.heap.size, 5, none⟩ = some d := hD.yet 11 (fun h => hn (hD.back 7 _ (hD.back 11 _ h rfl ⟨7, .data⟩ (by simp) rfl) rfl ⟨5, .data⟩ (by simp) rfl))
                  intro K hK
                  simp only [fillA]
                  go_simp
                  have h2 := hK d w' hB (setY_at ys 5 _) (fun j _ _ h => h) (fun j _ _ h => h) (fun j _ => ⟨fun _ => trivial, fun _ => trivial⟩)
                  simp [fillA, Act.put, f4] at h2
                  exact h2
                · (intro L ys w' hB hD hP hn; simp only [LAll, Region.binds, forall_const, and_true, true_and] at hP)
                  intro K hK
                  simp only [fillA]
                  go_simp
                  have h2 := hK (.slice (some ⟨w'.heap.size, 0, none⟩) 1 1) (w'.alloc (.cells #[.int .u8 1] 5)) (hB.gr' ((Gr.refl _).alloc _)) ⟨_, setY_at ys 6 _, hB.size, heap_alloc_new _ _⟩ (fun j _ _ h => h.gr ((Gr.refl _).alloc _)) (fun j _ _ h => h.gr ((Gr.refl _).alloc _)) (fun j _ => ⟨fun _ => trivial, fun _ => trivial⟩)
                  simp [fillA, Act.put] at h2 ⊢
                  exact h2
                · (intro L ys w' hB hD hP hn; simp only [LAll, Region.binds, forall_const, and_true, true_and] at hP)
                  have f5 : ys 5 = d := hD.fact 5 (by first | exact hP | exact hP.1 | exact hP.2.1 | exact hP.2.2.1 | exact hP.2.2.2.1 | exact hP.2.2.2.2 | exact hP.2 | exact hP.2.2 | exact hP.2.2.2) (fun _ _ => rfl)
                  obtain ⟨g, f6, hge, hgb⟩ : ∃ g, ys 6 = .slice (some ⟨g, 0, none⟩) 1 1 ∧ wr.heap.size ≤ g ∧ w'.heap[g]? = some (.cells #[.int .u8 1] 5 (0, 0)) := hD.fact 6 (by first | exact hP | exact hP.1 | exact hP.2.1 | exact hP.2.2.1 | exact hP.2.2.2.1 | exact hP.2.2.2.2 | exact hP.2 | exact hP.2.2 | exact hP.2.2.2) (fun _ _ => rfl)
                  obtain ⟨lp, hrp⟩ : ∃ l : List Int, w'.ownsRow wX.heap.size 5 1 d o1 (bcells l) := hD.yet 7 hn
                  have hz : wX.heap.size ≤ w'.heap.size := hB.gr.size
                  intro K hK
                  with_reducible refine wp_addW (.tmp 73) (.tmp 74) 23 23 ?ho3 5 (.int .u8 0) 1 bytesT u8i ?hz3 wX.heap.size d o1 (bcells lp) ?hx3 hrp hz (.slice (some ⟨g, 0, none⟩) 1 1) 1 [.int .u8 1] ?hy3 (src_block bytesT [.int .u8 1] hgb rfl ?h13) ?hn3 ?hb3 ?hh3
                  case ho3 => rfl
                  case hz3 => rfl
                  case h13 => simp [Value.oneCell']
                  case hx3 => simp [Act.eval, fillA, Act.put, f5]
                  case hy3 => simp [Act.eval, fillA, Act.put, f6]
                  case hn3 => unfold maxLen; omega
                  case hb3 => omega
                  case hh3 =>
                    intro xa2 xc2 w2 hown hgb2
                    exact hK _ w2 (hB.grown hrp hB.db hgb2) ⟨xa2, xc2, setY_at ys 7 _⟩ (fun j _ _ h => h.grown hB.db hB.hR hgb2) (fun j _ hne h => h.grownD hne hrp hB.db hgb2) (fun j _ => ⟨fun _ => trivial, fun _ => trivial⟩)
                · (intro L ys w' hB hD hP hn; simp only [LAll, Region.binds, forall_const, and_true, true_and] at hP)
                  intro K hK
                  simp only [fillA]
                  go_simp
                  have h2 := hK (.pointer (some ⟨wV.heap.size, 3, none⟩)) w' hB (setY_at ys 8 _) (fun j _ _ h => h) (fun j _ _ h => h) (fun j _ => ⟨fun _ => trivial, fun _ => trivial⟩)
                  simp [fillA, Act.put] at h2
                  exact h2
                · (intro L ys w' hB hD hP hn; simp only [LAll, Region.binds, forall_const, and_true, true_and] at hP)
                  have f8 : ys 8 = .pointer (some ⟨wV.heap.size, 3, none⟩) := hD.fact 8 (by first | exact hP | exact hP.1 | exact hP.2.1 | exact hP.2.2.1 | exact hP.2.2.2.1 | exact hP.2.2.2.2 | exact hP.2 | exact hP.2.2 | exact hP.2.2.2) (fun _ _ => rfl)
                  obtain ⟨xa2, xc2, f3⟩ : ∃ va ca, ys 3 = .slice va (n1 + 1) ca := hD.fact 3 (by first | exact hP | exact hP.1 | exact hP.2.1 | exact hP.2.2.1 | exact hP.2.2.2.1 | exact hP.2.2.2.2 | exact hP.2 | exact hP.2.2 | exact hP.2.2.2) (fun _ _ => rfl)
                  obtain ⟨x, y, hb⟩ := hB.ybox
                  obtain ⟨q0, q1, q2, q3, q4, q5, qf⟩ := cells6 hb
                  intro K hK
                  simp only [fillA]
                  go_simp
                  have h2 := hK undef (w'.setCell ⟨wV.heap.size, 3, none⟩ (.slice xa2 (n1 + 1) xc2)) (hB.set3 _) trivial (fun j hl _ h => h.set hB.hR) (fun j _ hne h => h.set (fun e => absurd e hne) (fun e => by decide) hB.pb hB.db) (fun j _ => ⟨fun _ => trivial, fun _ => trivial⟩)
                  simp [fillA, Act.put, f8, f3, q3, q5, qf] at h2 ⊢
                  exact h2
                · (intro L ys w' hB hD hP hn; simp only [LAll, Region.binds, forall_const, and_true, true_and] at hP)
                  intro K hK
                  simp only [fillA]
                  go_simp
                  have h2 := hK (.pointer (some ⟨wV.heap.size, 5, none⟩)) w' hB (setY_at ys 10 _) (fun j _ _ h => h) (fun j _ _ h => h) (fun j _ => ⟨fun _ => trivial, fun _ => trivial⟩)
                  simp [fillA, Act.put] at h2
                  exact h2
                · (intro L ys w' hB hD hP hn; simp only [LAll, Region.binds, forall_const, and_true, true_and] at hP)
                  have f10 : ys 10 = .pointer (some ⟨wV.heap.size, 5, none⟩) := hD.fact 10 (by first | exact hP | exact hP.1 | exact hP.2.1 | exact hP.2.2.1 | exact hP.2.2.2.1 | exact hP.2.2.2.2 | exact hP.2 | exact hP.2.2 | exact hP.2.2.2) (fun _ _ => rfl)
                  obtain ⟨xa2, xc2, f7⟩ : ∃ va ca, ys 7 = .slice va (o1 + 1) ca := hD.fact 7 (by first | exact hP | exact hP.1 | exact hP.2.1 | exact hP.2.2.1 | exact hP.2.2.2.1 | exact hP.2.2.2.2 | exact hP.2 | exact hP.2.2 | exact hP.2.2.2) (fun _ _ => rfl)
                  obtain ⟨x, y, hb⟩ := hB.ybox
                  obtain ⟨q0, q1, q2, q3, q4, q5, qf⟩ := cells6 hb
                  intro K hK
                  simp only [fillA]
                  go_simp
                  have h2 := hK undef (w'.setCell ⟨wV.heap.size, 5, none⟩ (.slice xa2 (o1 + 1) xc2)) (hB.set5 _) trivial (fun j hl _ h => h.set hB.hR) (fun j _ hne h => h.set (fun e => by decide) (fun e => absurd e hne) hB.pb hB.db) (fun j _ => ⟨fun _ => trivial, fun _ => trivial⟩)
                  simp [fillA, Act.put, f10, f7, q3, q5, qf] at h2 ⊢
                  exact h2
              · intro ys w' hB _ _
                have hgw' := hB.gr
                have hcr := HasRow.of_own hB.crow
                clear hB hKS t0 t1 t2 t3 t4 t5 tf hKR hcX
                simp only [fillA, Act.put, Nat.zero_add, List.setIfInBounds_toArray, List.set_cons_zero, List.set_cons_succ]
                go_upto_region 23 with (fail)
                have hgT := (hgbR.trans (hgO.trans hgX)).trans hgw'
                have hgA := hgwX.trans hgw'
                have HST := Lib.hid (fun (w9 : World) (hg : Gr w' w9) => hS w9 (hgT.trans hg))
                have HSX := Lib.hid (fun (w9 : World) (hg : Gr w' w9) => cells6 ((hgw'.trans hg).blk hbX))
                have HRC := Lib.hid (fun (w9 : World) (hg : Gr w' w9) => K.rcheck w9 (hgA.trans hg))
                have HRS := Lib.hid (fun (w9 : World) (hg : Gr w' w9) => K.same w9 pa pc da dc (hR.gr (hgw'.trans hg)) (hgA.trans hg))
                have HCP := Lib.hid (fun (w9 : World) (hg : Gr w' w9) => KK.copy w9 pa pc da dc (hR.gr (hgw'.trans hg)))
                have HTL := Lib.hid (fun (w9 : World) => K.told w9 pa pc da dc)
                have HPS := Lib.hid (fun (w9 : World) (pa' : Option Addr) (pc' : Nat) (da' : Option Addr) (dc' : Nat) (hg : Gr w' w9) (hq : RTok w9 T (.slice pa' n1 pc', .slice da' o1 dc')) => KK.same w9 pa pc da dc pa' pc' da' dc' (hR.gr (hgw'.trans hg)) hq)
                clear hS hbX hR hgT haw hT
                by_cases h0 : r = 0
                · have hlc2 := hlc h0
                  clear hlc
                  have hrb := fun (w9 : World) (hg : Gr w' w9) => K.rbytes h0 w9 (hgA.trans hg)
                  have hcv := fun (W : World) (hg : Gr w' W) => conv_row (hcr.gr hg)
                  subst h0
                  rw [hlc2] at hcv
                  obtain ⟨X, hX⟩ : ∃ X, X = strOf (bytesR T false) := ⟨_, rfl⟩
                  rw [← hX] at hcv
                  obtain ⟨xn, hxn⟩ : ∃ xn, xn = lc.length := ⟨_, rfl⟩
                  rw [← hlc2, ← hxn] at hcv
                  rw [← hxn]
                  have HX := Lib.hid hX
                  have HCV := Lib.hid hcv
                  have HRB := Lib.hid hrb
                  clear hX hcv hrb hlc2 hxn hcr
                  refine wp_region_facts6 (kqA k c m 0 a1 n1 d1 s b1 o1 e1 xa xn xc X (bytesR T false)) (Gr w') (by kernel_rfl) (by kernel_rfl) (by kernel_rfl) ((Gr.refl _).drew) ?_ ?_
                  · intro hap
                    refine Steps.cons1 1 rfl rfl ?_ (Steps.cons1 2 rfl rfl ?_ (Steps.cons1 3 rfl rfl ?_ (Steps.cons1 4 rfl rfl ?_ (Steps.consY 5 rfl 3 true rfl hap (by kernel_rfl) ?_ ?_ (Steps.consY 6 rfl 3 true rfl hap (by kernel_rfl) ?_ ?_ (Steps.consY 7 rfl 3 true rfl hap (by kernel_rfl) ?_ ?_ (Steps.consY 8 rfl 3 true rfl hap (by kernel_rfl) ?_ ?_ (Steps.consY 9 rfl 3 true rfl hap (by kernel_rfl) ?_ ?_ (Steps.consY 10 rfl 3 true rfl hap (by kernel_rfl) ?_ ?_ (Steps.cons1 11 rfl rfl ?_ (Steps.nil)))))))))))
                    · (intro ys w' hB hP; simp only [Preds, Region.binds, kqA, forall_const, and_true, true_and] at hP)
                      obtain ⟨q0, q1, q2, q3, q4, q5, qf⟩ := HST.out _ hB
                      intro K hK
                      simp only [fillA]
                      go_simp
                      have h2 := hK _ w' hB rfl (fun j u _ h => h)
                      simp [fillA, Act.put, hP] at h2
                      exact h2
                    · (intro ys w' hB hP; simp only [Preds, Region.binds, kqA, forall_const, and_true, true_and] at hP)
                      intro K hK
                      simp only [fillA]
                      go_simp
                      (with_reducible refine (HRC.out _ hB).mono ?_)
                      rintro e w10 ⟨rfl, hg10⟩
                      have h2 := hK _ w10 (hB.trans hg10) rfl (fun j u _ h => h.gr hg10)
                      simp [fillA, Act.put, hP] at h2
                      exact h2
                    · (intro ys w' hB hP K hK; simp only [Preds, Region.binds, kqA, forall_const, and_true, true_and] at hP; simp only [fillA]; go_simp; (have h2 := fun v => hK v w' hB); simp only [kqA, forall_eq] at h2; (have h2 := h2 (fun _ _ _ h => h)); simp [fillA, Act.put, hP] at h2; exact h2)
                    · (intro ys w' hB hP K hK; simp only [Preds, Region.binds, kqA, forall_const, and_true, true_and] at hP; simp only [fillA]; go_simp; (have h2 := fun v => hK v w' hB); simp only [kqA, forall_eq] at h2; (have h2 := h2 (fun _ _ _ h => h)); simp [fillA, Act.put, hP] at h2; exact h2)
                    · (intro ys w' hB hP; simp only [Preds, Region.binds, kqA, forall_const, and_true, true_and] at hP; simp [hP])
                    · (intro ys w' hB hP K hK; simp only [Preds, Region.binds, kqA, forall_const, and_true, true_and] at hP; simp only [fillA]; go_simp; (have h2 := fun v => hK v w' hB); simp only [kqA, forall_eq] at h2; (have h2 := h2 (fun _ _ _ h => h)); simp [fillA, Act.put, hP] at h2; exact h2)
                    · (intro ys w' hB hP; simp only [Preds, Region.binds, kqA, forall_const, and_true, true_and] at hP; simp [hP])
                    · (intro ys w' hB hP; simp only [Preds, Region.binds, kqA, forall_const, and_true, true_and] at hP)
                      have hcv := HCV.out w' hB
                      intro K hK
                      simp only [fillA]
                      go_simp
                      have h2 := hK _ w' hB rfl (fun j u _ h => h)
                      simp [fillA, Act.put, hP] at h2
                      exact h2
                    · (intro ys w' hB hP; simp only [Preds, Region.binds, kqA, forall_const, and_true, true_and] at hP; simp [hP])
                    · (intro ys w' hB hP; simp only [Preds, Region.binds, kqA, forall_const, and_true, true_and] at hP)
                      obtain ⟨q0, q1, q2, q3, q4, q5, qf⟩ := HST.out _ hB
                      intro K hK
                      simp only [fillA]
                      go_simp
                      have h2 := hK _ w' hB rfl (fun j u _ h => h)
                      simp [fillA, Act.put, hP] at h2
                      exact h2
                    · (intro ys w' hB hP; simp only [Preds, Region.binds, kqA, forall_const, and_true, true_and] at hP; simp [hP])
                    · (intro ys w' hB hP; simp only [Preds, Region.binds, kqA, forall_const, and_true, true_and] at hP)
                      intro K hK
                      simp only [fillA]
                      go_simp
                      (with_reducible refine (HRB.out _ hB _).mono ?_)
                      rintro e w10 ⟨v2, rfl, hrow2, hg10⟩
                      obtain ⟨va2, vc2, rfl⟩ := hrow2.form
                      have h2 := hK _ w10 (hB.trans hg10) ⟨va2, _, vc2, rfl, hrow2⟩ (fun j u _ h => h.gr hg10)
                      simp [fillA, Act.put, hP] at h2
                      exact h2
                    · (intro ys w' hB hP; simp only [Preds, Region.binds, kqA, forall_const, and_true, true_and] at hP; simp [hP])
                    · (intro ys w' hB hP; simp only [Preds, Region.binds, kqA, forall_const, and_true, true_and] at hP)
                      obtain ⟨va2, n2', vc2, hy, hrow2⟩ : ∃ va n vc, ys 7 = .slice va n vc ∧ HasRow w' 5 (.slice va n vc) n (bcells (bytesR T false)) := by first | exact hP | exact hP.1 | exact hP.2 | exact hP.2.1 | exact hP.2.2 | exact hP.2.2.1 | exact hP.2.2.2 | exact hP.2.2.2.1 | exact hP.2.2.2.2 | exact hP.1.1 | exact hP.1.2
                      have h15 : ys 3 = .bool true := by first | exact hP | exact hP.1 | exact hP.2 | exact hP.2.1 | exact hP.2.2 | exact hP.2.2.1 | exact hP.2.2.2 | exact hP.2.2.2.1 | exact hP.2.2.2.2 | exact hP.1.1 | exact hP.1.2
                      clear hP
                      have hcv2 := conv_row hrow2
                      rw [← HX.out] at hcv2
                      intro K hK
                      simp only [fillA]
                      go_simp
                      have h2 := hK _ w' hB rfl (fun j u _ h => h)
                      simp [fillA, Act.put, hy, h15] at h2
                      exact h2
                    · (intro ys w' hB hP; simp only [Preds, Region.binds, kqA, forall_const, and_true, true_and] at hP; simp [hP])
                    · (intro ys w' hB hP K hK; simp only [Preds, Region.binds, kqA, forall_const, and_true, true_and] at hP; simp only [fillA]; go_simp; (have h2 := fun v => hK v w' hB); simp only [kqA, forall_eq] at h2; (have h2 := h2 (fun _ _ _ h => h)); simp [fillA, Act.put, hP] at h2; exact h2)
                    · (intro ys w' hB hP K hK; simp only [Preds, Region.binds, kqA, forall_const, and_true, true_and] at hP; simp only [fillA]; go_simp; (have h2 := fun v => hK v w' hB); simp only [kqA, forall_eq] at h2; (have h2 := h2 (fun _ _ _ h => h)); simp [fillA, Act.put, hP] at h2; exact h2)
                  · intro ys2 w12 hB1 hF
                    have f10 : ys2 10 = .bool false := hF 10 (by decide)
                    clear hF
                    simp only [fillA, f10, Act.put, Nat.zero_add, List.setIfInBounds_toArray, List.set_cons_zero, List.set_cons_succ]
                    clear f10
                    go_upto_region 25 with (fail)
                    refine wp_region_facts6 (kqC T k c m a1 n1 d1 s b1 o1 e1 pa pc da dc) (Gr w') (by kernel_rfl) (by kernel_rfl) (by kernel_rfl) (hB1.drew) ?_ ?_
                    · intro hap
                      refine Steps.cons1 1 rfl rfl ?_ (Steps.cons1 2 rfl rfl ?_ (Steps.cons1 3 rfl rfl ?_ (Steps.cons1 4 rfl rfl ?_ (Steps.cons1 5 rfl rfl ?_ (Steps.consY 6 rfl 4 true rfl hap (by kernel_rfl) ?_ ?_ (Steps.consY 7 rfl 4 true rfl hap (by kernel_rfl) ?_ ?_ (Steps.consY 8 rfl 4 true rfl hap (by kernel_rfl) ?_ ?_ (Steps.consY 9 rfl 4 true rfl hap (by kernel_rfl) ?_ ?_ (Steps.cons1 10 rfl rfl ?_ (Steps.cons1 11 rfl rfl ?_ (Steps.nil)))))))))))
                      · (intro ys w' hB hP; simp only [Preds, Region.binds, kqC, forall_const, and_true, true_and] at hP)
                        obtain ⟨q0, q1, q2, q3, q4, q5, qf⟩ := HSX.out _ hB
                        intro K hK
                        simp only [fillA]
                        go_simp
                        have h2 := hK _ w' hB rfl (fun j u _ h => h)
                        simp [fillA, Act.put, hP] at h2
                        exact h2
                      · (intro ys w' hB hP; simp only [Preds, Region.binds, kqC, forall_const, and_true, true_and] at hP)
                        intro K hK
                        simp only [fillA]
                        go_simp
                        (with_reducible refine (HTL.out _).mono ?_)
                        rintro e w10 ⟨rfl, hg10⟩
                        have h2 := hK _ w10 (hB.trans hg10) rfl (fun j u _ h => h.gr hg10)
                        simp [fillA, Act.put, hP] at h2
                        exact h2
                      · (intro ys w' hB hP; simp only [Preds, Region.binds, kqC, forall_const, and_true, true_and] at hP)
                        obtain ⟨q0, q1, q2, q3, q4, q5, qf⟩ := HST.out _ hB
                        intro K hK
                        simp only [fillA]
                        go_simp
                        have h2 := hK _ w' hB rfl (fun j u _ h => h)
                        simp [fillA, Act.put, hP] at h2
                        exact h2
                      · (intro ys w' hB hP; simp only [Preds, Region.binds, kqC, forall_const, and_true, true_and] at hP)
                        intro K hK
                        simp only [fillA]
                        go_simp
                        (with_reducible refine (HRS.out _ hB).mono ?_)
                        rintro e w10 ⟨rfl, hg10⟩
                        have h2 := hK _ w10 (hB.trans hg10) rfl (fun j u _ h => h.gr hg10)
                        simp [fillA, Act.put, hP] at h2
                        exact h2
                      · (intro ys w' hB hP K hK; simp only [Preds, Region.binds, kqC, forall_const, and_true, true_and] at hP; simp only [fillA]; go_simp; (have h2 := fun v => hK v w' hB); simp only [kqC, forall_eq] at h2; (have h2 := h2 (fun _ _ _ h => h)); simp [fillA, Act.put, hP] at h2; exact h2)
                      · (intro ys w' hB hP; simp only [Preds, Region.binds, kqC, forall_const, and_true, true_and] at hP; simp [hP])
                      · (intro ys w' hB hP; simp only [Preds, Region.binds, kqC, forall_const, and_true, true_and] at hP)
                        obtain ⟨q0, q1, q2, q3, q4, q5, qf⟩ := HSX.out _ hB
                        intro K hK
                        simp only [fillA]
                        go_simp
                        have h2 := hK _ w' hB rfl (fun j u _ h => h)
                        simp [fillA, Act.put, hP] at h2
                        exact h2
                      · (intro ys w' hB hP; simp only [Preds, Region.binds, kqC, forall_const, and_true, true_and] at hP; simp [hP])
                      · (intro ys w' hB hP; simp only [Preds, Region.binds, kqC, forall_const, and_true, true_and] at hP)
                        obtain ⟨q0, q1, q2, q3, q4, q5, qf⟩ := HSX.out _ hB
                        intro K hK
                        simp only [fillA]
                        go_simp
                        have h2 := hK _ w' hB rfl (fun j u _ h => h)
                        simp [fillA, Act.put, hP] at h2
                        exact h2
                      · (intro ys w' hB hP; simp only [Preds, Region.binds, kqC, forall_const, and_true, true_and] at hP; simp [hP])
                      · (intro ys w' hB hP; simp only [Preds, Region.binds, kqC, forall_const, and_true, true_and] at hP)
                        intro K9 hK
                        simp only [fillA]
                        go_simp
                        (with_reducible refine (HCP.out _ hB).mono ?_)
                        rintro e w10 ⟨va2, ca2, vb2, cb2, rfl, hO2, hg10⟩
                        have h2 := hK _ w10 (hB.trans hg10) ⟨va2, ca2, vb2, cb2, rfl, hO2.r⟩ (fun j u _ h => h.gr hg10)
                        simp [fillA, Act.put, hP] at h2
                        exact h2
                      · (intro ys w' hB hP; simp only [Preds, Region.binds, kqC, forall_const, and_true, true_and] at hP; simp [hP])
                      · (intro ys w' hB hP; simp only [Preds, Region.binds, kqC, forall_const, and_true, true_and] at hP)
                        obtain ⟨va2, ca2, vb2, cb2, hy, hR2⟩ : ∃ va ca vb cb, ys 7 = .agg #[.int .i64 k, .int .u8 c, .int .u8 m, .slice va n1 ca, .string s, .slice vb o1 cb] ∧ RTok w' T (.slice va n1 ca, .slice vb o1 cb) := by first | exact hP | exact hP.1 | exact hP.2 | exact hP.2.1 | exact hP.2.2 | exact hP.2.2.1 | exact hP.2.2.2 | exact hP.2.2.2.1 | exact hP.2.2.2.2 | exact hP.1.1 | exact hP.1.2
                        have h4 : ys 4 = .bool true := by first | exact hP | exact hP.1 | exact hP.2 | exact hP.2.1 | exact hP.2.2 | exact hP.2.2.1 | exact hP.2.2.2 | exact hP.2.2.2.1 | exact hP.2.2.2.2 | exact hP.1.1 | exact hP.1.2
                        have h5 : ys 5 = .agg #[.int .i64 k, .int .u8 c, .int .u8 m, .slice pa n1 pc, .string s, .slice da o1 dc] := by first | exact hP | exact hP.1 | exact hP.2 | exact hP.2.1 | exact hP.2.2 | exact hP.2.2.1 | exact hP.2.2.2 | exact hP.2.2.2.1 | exact hP.2.2.2.2 | exact hP.1.1 | exact hP.1.2
                        clear hP
                        intro K9 hK
                        simp only [fillA]
                        go_simp
                        (with_reducible refine (HPS.out _ _ _ _ _ hB hR2).mono ?_)
                        rintro e w10 ⟨rfl, hg10⟩
                        have h2 := hK _ w10 (hB.trans hg10) rfl (fun j u _ h => h.gr hg10)
                        simp [fillA, Act.put, hy, h4, h5] at h2
                        exact h2
                      · (intro ys w' hB hP K hK; simp only [Preds, Region.binds, kqC, forall_const, and_true, true_and] at hP; simp only [fillA]; go_simp; (have h2 := fun v => hK v w' hB); simp only [kqC, forall_eq] at h2; (have h2 := h2 (fun _ _ _ h => h)); simp [fillA, Act.put, hP] at h2; exact h2)
                      · (intro ys w' hB hP K hK; simp only [Preds, Region.binds, kqC, forall_const, and_true, true_and] at hP; simp only [fillA]; go_simp; (have h2 := fun v => hK v w' hB); simp only [kqC, forall_eq] at h2; (have h2 := h2 (fun _ _ _ h => h)); simp [fillA, Act.put, hP] at h2; exact h2)
                    · intro ys3 w11 hB3 hF
                      have f10 : ys3 10 = .bool true := hF 10 (by decide)
                      clear hF
                      simp only [fillA, f10, Act.put, Nat.zero_add, List.setIfInBounds_toArray, List.set_cons_zero, List.set_cons_succ]
                      clear f10
                      go_wp2_with fail
                      go_ret
                      exact ⟨rfl, hgA.trans hB3⟩
                · have hr0 : (r == 0) = false := by simpa using h0
                  obtain ⟨xn, hxn⟩ : ∃ xn, xn = lc.length := ⟨_, rfl⟩
                  rw [← hxn]
                  clear h0 hxn hlc hcr
                  refine wp_region_facts6 (kqB k c m r a1 n1 d1 s b1 o1 e1 xa xn xc ⟨#[]⟩ []) (Gr w') (by kernel_rfl) (by kernel_rfl) (by kernel_rfl) ((Gr.refl _).drew) ?_ ?_
                  · intro hap
                    refine Steps.cons1 1 rfl rfl ?_ (Steps.cons1 2 rfl rfl ?_ (Steps.cons1 3 rfl rfl ?_ (Steps.cons1 4 rfl rfl ?_ (Steps.consN 5 rfl 3 true rfl hap (by kernel_rfl) ?_ ?_ (Steps.consN 6 rfl 3 true rfl hap (by kernel_rfl) ?_ ?_ (Steps.consN 7 rfl 3 true rfl hap (by kernel_rfl) ?_ ?_ (Steps.consN 8 rfl 3 true rfl hap (by kernel_rfl) ?_ ?_ (Steps.consN 9 rfl 3 true rfl hap (by kernel_rfl) ?_ ?_ (Steps.consN 10 rfl 3 true rfl hap (by kernel_rfl) ?_ ?_ (Steps.cons1 11 rfl rfl ?_ (Steps.nil)))))))))))
                    · (intro ys w' hB hP; simp only [Preds, Region.binds, kqB, forall_const, and_true, true_and] at hP)
                      obtain ⟨q0, q1, q2, q3, q4, q5, qf⟩ := HST.out _ hB
                      intro K hK
                      simp only [fillA]
                      go_simp
                      have h2 := hK _ w' hB rfl (fun j u _ h => h)
                      simp [fillA, Act.put, hP] at h2
                      exact h2
                    · (intro ys w' hB hP; simp only [Preds, Region.binds, kqB, forall_const, and_true, true_and] at hP)
                      intro K hK
                      simp only [fillA]
                      go_simp
                      (with_reducible refine (HRC.out _ hB).mono ?_)
                      rintro e w10 ⟨rfl, hg10⟩
                      have h2 := hK _ w10 (hB.trans hg10) rfl (fun j u _ h => h.gr hg10)
                      simp [fillA, Act.put, hP] at h2
                      exact h2
                    · (intro ys w' hB hP K hK; simp only [Preds, Region.binds, kqB, forall_const, and_true, true_and] at hP; simp only [fillA]; go_simp; (have h2 := fun v => hK v w' hB); simp only [kqB, forall_eq] at h2; (have h2 := h2 (fun _ _ _ h => h)); simp [fillA, Act.put, hP] at h2; exact h2)
                    · (intro ys w' hB hP K hK; simp only [Preds, Region.binds, kqB, forall_const, and_true, true_and] at hP; simp only [fillA]; go_simp; (have h2 := fun v => hK v w' hB); simp only [kqB, forall_eq] at h2; (have h2 := h2 (fun _ _ _ h => h)); simp [fillA, Act.put, hP] at h2; exact h2)
                    · (intro ys w' hB hP; simp only [Preds, Region.binds, kqB, forall_const, and_true, true_and] at hP; simp [hP])
                    · exact fun _ => trivial
                    · (intro ys w' hB hP; simp only [Preds, Region.binds, kqB, forall_const, and_true, true_and] at hP; simp [hP])
                    · exact fun _ => trivial
                    · (intro ys w' hB hP; simp only [Preds, Region.binds, kqB, forall_const, and_true, true_and] at hP; simp [hP])
                    · exact fun _ => trivial
                    · (intro ys w' hB hP; simp only [Preds, Region.binds, kqB, forall_const, and_true, true_and] at hP; simp [hP])
                    · exact fun _ => trivial
                    · (intro ys w' hB hP; simp only [Preds, Region.binds, kqB, forall_const, and_true, true_and] at hP; simp [hP])
                    · exact fun _ => trivial
                    · (intro ys w' hB hP; simp only [Preds, Region.binds, kqB, forall_const, and_true, true_and] at hP; simp [hP])
                    · exact fun _ => trivial
                    · (intro ys w' hB hP K hK; simp only [Preds, Region.binds, kqB, forall_const, and_true, true_and] at hP; simp only [fillA]; go_simp; (have h2 := fun v => hK v w' hB); simp only [kqB, forall_eq] at h2; (have h2 := h2 (fun _ _ _ h => h)); simp [fillA, Act.put, hP] at h2; exact h2)
                  · intro ys2 w12 hB1 hF
                    have f10 : ys2 10 = .bool false := hF 10 (by decide)
                    clear hF
                    simp only [fillA, f10, Act.put, Nat.zero_add, List.setIfInBounds_toArray, List.set_cons_zero, List.set_cons_succ]
                    clear f10
                    go_upto_region 25 with (fail)
                    refine wp_region_facts6 (kqC T k c m a1 n1 d1 s b1 o1 e1 pa pc da dc) (Gr w') (by kernel_rfl) (by kernel_rfl) (by kernel_rfl) (hB1.drew) ?_ ?_
                    · intro hap
                      refine Steps.cons1 1 rfl rfl ?_ (Steps.cons1 2 rfl rfl ?_ (Steps.cons1 3 rfl rfl ?_ (Steps.cons1 4 rfl rfl ?_ (Steps.cons1 5 rfl rfl ?_ (Steps.consY 6 rfl 4 true rfl hap (by kernel_rfl) ?_ ?_ (Steps.consY 7 rfl 4 true rfl hap (by kernel_rfl) ?_ ?_ (Steps.consY 8 rfl 4 true rfl hap (by kernel_rfl) ?_ ?_ (Steps.consY 9 rfl 4 true rfl hap (by kernel_rfl) ?_ ?_ (Steps.cons1 10 rfl rfl ?_ (Steps.cons1 11 rfl rfl ?_ (Steps.nil)))))))))))
                      · (intro ys w' hB hP; simp only [Preds, Region.binds, kqC, forall_const, and_true, true_and] at hP)
                        obtain ⟨q0, q1, q2, q3, q4, q5, qf⟩ := HSX.out _ hB
                        intro K hK
                        simp only [fillA]
                        go_simp
                        have h2 := hK _ w' hB rfl (fun j u _ h => h)
                        simp [fillA, Act.put, hP] at h2
                        exact h2
                      · (intro ys w' hB hP; simp only [Preds, Region.binds, kqC, forall_const, and_true, true_and] at hP)
                        intro K hK
                        simp only [fillA]
                        go_simp
                        (with_reducible refine (HTL.out _).mono ?_)
                        rintro e w10 ⟨rfl, hg10⟩
                        have h2 := hK _ w10 (hB.trans hg10) rfl (fun j u _ h => h.gr hg10)
                        simp [fillA, Act.put, hP] at h2
                        exact h2
                      · (intro ys w' hB hP; simp only [Preds, Region.binds, kqC, forall_const, and_true, true_and] at hP)
                        obtain ⟨q0, q1, q2, q3, q4, q5, qf⟩ := HST.out _ hB
                        intro K hK
                        simp only [fillA]
                        go_simp
                        have h2 := hK _ w' hB rfl (fun j u _ h => h)
                        simp [fillA, Act.put, hP] at h2
                        exact h2
                      · (intro ys w' hB hP; simp only [Preds, Region.binds, kqC, forall_const, and_true, true_and] at hP)
                        intro K hK
                        simp only [fillA]
                        go_simp
                        (with_reducible refine (HRS.out _ hB).mono ?_)
                        rintro e w10 ⟨rfl, hg10⟩
                        have h2 := hK _ w10 (hB.trans hg10) rfl (fun j u _ h => h.gr hg10)
                        simp [fillA, Act.put, hP] at h2
                        exact h2
                      · (intro ys w' hB hP K hK; simp only [Preds, Region.binds, kqC, forall_const, and_true, true_and] at hP; simp only [fillA]; go_simp; (have h2 := fun v => hK v w' hB); simp only [kqC, forall_eq] at h2; (have h2 := h2 (fun _ _ _ h => h)); simp [fillA, Act.put, hP] at h2; exact h2)
                      · (intro ys w' hB hP; simp only [Preds, Region.binds, kqC, forall_const, and_true, true_and] at hP; simp [hP])
                      · (intro ys w' hB hP; simp only [Preds, Region.binds, kqC, forall_const, and_true, true_and] at hP)
                        obtain ⟨q0, q1, q2, q3, q4, q5, qf⟩ := HSX.out _ hB
                        intro K hK
                        simp only [fillA]
                        go_simp
                        have h2 := hK _ w' hB rfl (fun j u _ h => h)
                        simp [fillA, Act.put, hP] at h2
                        exact h2
                      · (intro ys w' hB hP; simp only [Preds, Region.binds, kqC, forall_const, and_true, true_and] at hP; simp [hP])
                      · (intro ys w' hB hP; simp only [Preds, Region.binds, kqC, forall_const, and_true, true_and] at hP)
                        obtain ⟨q0, q1, q2, q3, q4, q5, qf⟩ := HSX.out _ hB
                        intro K hK
                        simp only [fillA]
                        go_simp
                        have h2 := hK _ w' hB rfl (fun j u _ h => h)
                        simp [fillA, Act.put, hP] at h2
                        exact h2
                      · (intro ys w' hB hP; simp only [Preds, Region.binds, kqC, forall_const, and_true, true_and] at hP; simp [hP])
                      · (intro ys w' hB hP; simp only [Preds, Region.binds, kqC, forall_const, and_true, true_and] at hP)
                        intro K9 hK
                        simp only [fillA]
                        go_simp
                        (with_reducible refine (HCP.out _ hB).mono ?_)
                        rintro e w10 ⟨va2, ca2, vb2, cb2, rfl, hO2, hg10⟩
                        have h2 := hK _ w10 (hB.trans hg10) ⟨va2, ca2, vb2, cb2, rfl, hO2.r⟩ (fun j u _ h => h.gr hg10)
                        simp [fillA, Act.put, hP] at h2
                        exact h2
                      · (intro ys w' hB hP; simp only [Preds, Region.binds, kqC, forall_const, and_true, true_and] at hP; simp [hP])
                      · (intro ys w' hB hP; simp only [Preds, Region.binds, kqC, forall_const, and_true, true_and] at hP)
                        obtain ⟨va2, ca2, vb2, cb2, hy, hR2⟩ : ∃ va ca vb cb, ys 7 = .agg #[.int .i64 k, .int .u8 c, .int .u8 m, .slice va n1 ca, .string s, .slice vb o1 cb] ∧ RTok w' T (.slice va n1 ca, .slice vb o1 cb) := by first | exact hP | exact hP.1 | exact hP.2 | exact hP.2.1 | exact hP.2.2 | exact hP.2.2.1 | exact hP.2.2.2 | exact hP.2.2.2.1 | exact hP.2.2.2.2 | exact hP.1.1 | exact hP.1.2
                        have h4 : ys 4 = .bool true := by first | exact hP | exact hP.1 | exact hP.2 | exact hP.2.1 | exact hP.2.2 | exact hP.2.2.1 | exact hP.2.2.2 | exact hP.2.2.2.1 | exact hP.2.2.2.2 | exact hP.1.1 | exact hP.1.2
                        have h5 : ys 5 = .agg #[.int .i64 k, .int .u8 c, .int .u8 m, .slice pa n1 pc, .string s, .slice da o1 dc] := by first | exact hP | exact hP.1 | exact hP.2 | exact hP.2.1 | exact hP.2.2 | exact hP.2.2.1 | exact hP.2.2.2 | exact hP.2.2.2.1 | exact hP.2.2.2.2 | exact hP.1.1 | exact hP.1.2
                        clear hP
                        intro K9 hK
                        simp only [fillA]
                        go_simp
                        (with_reducible refine (HPS.out _ _ _ _ _ hB hR2).mono ?_)
                        rintro e w10 ⟨rfl, hg10⟩
                        have h2 := hK _ w10 (hB.trans hg10) rfl (fun j u _ h => h.gr hg10)
                        simp [fillA, Act.put, hy, h4, h5] at h2
                        exact h2
                      · (intro ys w' hB hP K hK; simp only [Preds, Region.binds, kqC, forall_const, and_true, true_and] at hP; simp only [fillA]; go_simp; (have h2 := fun v => hK v w' hB); simp only [kqC, forall_eq] at h2; (have h2 := h2 (fun _ _ _ h => h)); simp [fillA, Act.put, hP] at h2; exact h2)
                      · (intro ys w' hB hP K hK; simp only [Preds, Region.binds, kqC, forall_const, and_true, true_and] at hP; simp only [fillA]; go_simp; (have h2 := fun v => hK v w' hB); simp only [kqC, forall_eq] at h2; (have h2 := h2 (fun _ _ _ h => h)); simp [fillA, Act.put, hP] at h2; exact h2)
                    · intro ys3 w11 hB3 hF
                      have f10 : ys3 10 = .bool true := hF 10 (by decide)
                      clear hF
                      simp only [fillA, f10, Act.put, Nat.zero_add, List.setIfInBounds_toArray, List.set_cons_zero, List.set_cons_succ]
                      clear f10
                      go_wp2_with fail
                      go_ret
                      exact ⟨rfl, hgA.trans hB3⟩
end Go.Proofs.YtgbmjlajheeciaaDoor
