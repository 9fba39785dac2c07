/-
  A token's bytes in both texts, walked.
  A token's bytes in the program's text, walked kind by kind.
-/
import Derived.Deep.RegionHeld3
import Derived.Test.YtnnhaenmoifplaaDoorZTkD
import Derived.Test.YtnnhaenmoifplaaDoorZPdV
namespace Go.Proofs.YtnnhaenmoifplaaDoor
set_option linter.unusedSimpArgs false
set_option linter.unusedVariables false
open Go.RowKit

theorem begins_eq (k : Int) : beginsR k = begR k := by unfold beginsR begR; rfl

theorem pairR_len (c : Int) (eight : Bool) : ([] ++ pairR c eight).length ≤ 2 := by
  unfold pairR; split <;> simp
/-- What Bytes gives of a token that can be. -/
def TBytes (w : World) (l : List Int) (e : Ending) (w' : World) : Prop := ∃ v, e = .returned (.tuple #[v, .int .i64 0]) ∧ (∃ w0, Gr w w0 ∧ BRow w0 w' v l) ∧ Gr w w'

theorem src_str {w : World} {l : List Int} {n : Nat} (hn : l.length = n) (h : ∀ c ∈ l, 0 ≤ c ∧ c < 256) : Src Tryd.prog 1 9 (.string (strOf l)) n (bcells l) w := by
  have := Src.ofString (P := Tryd.prog) w Tryd.underlying9 (strOf l)
  rw [byteCells_strOf l h, strOf_size', hn] at this
  exact this
theorem BRow.of {w0 w : World} {v : Value} {n : Nat} {xs : List Value} {l : List Int} (h : w.ownsRow w0.heap.size 5 1 v n xs) (hx : xs = bcells l) : BRow w0 w v l := by
  subst hx
  have hn : n = l.length := by have := h.1; simpa [bcells] using this.symm
  subst hn
  exact h
theorem fmtR_len (l : List Int) : (fmtR l).length ≤ 180 := by
  have := fmtGo_len (l.take 30)
  unfold fmtR
  rw [List.length_take] at this
  omega
theorem HasRow.rdi {w : World} {a : Option Addr} {n c : Nat} {e : TypeId} {xs : List Value} (h : HasRow w e (.slice a n c) n xs) : Rd w a n xs ∧ n ≤ c := by
  refine ⟨?_, ?_⟩
  · obtain ⟨a', c', he, hr, _⟩ := h.rd
    injection he with e1 e2 e3
    subst e1
    exact hr
  · rcases h.2 with ⟨he, h0⟩ | ⟨g, cap, cur, he, _, h1, _⟩
    · omega
    · injection he with _ _ e3; omega

theorem BRow.len {w0 w : World} {a : Option Addr} {n c : Nat} {l : List Int} (h : BRow w0 w (.slice a n c) l) : l.length = n := by
  obtain ⟨_, _, e⟩ := h.form
  injection e with _ e _
  exact e.symm
end Go.Proofs.YtnnhaenmoifplaaDoor

namespace Go.Proofs.YtnnhaenmoifplaaDoor
set_option linter.unusedSimpArgs false
set_option linter.unusedVariables false
open Go.RowKit
set_option linter.unusedVariables false

theorem src_has {w : World} {v : Value} {n : Nat} {l : List Int} (h : HasRow w 5 v n (bcells l)) : Src Tryd.prog 1 32 v n (bcells l) w := by
  have hl := h.1
  rcases h.2 with ⟨rfl, rfl⟩ | ⟨g, cap, cur, rfl, hh, hn, hc, ht⟩
  · have : bcells l = [] := List.eq_nil_of_length_eq_zero hl
    rw [this]; exact src_nil bytesT 0
  · exact Src.ofSlice w bytesT _ n cap _ (by omega) (fun j v hv => by
      have e : (⟨g, 0, none⟩ : Addr).add j = ⟨g, j, none⟩ := by rcases j with _ | j <;> simp [Addr.add]
      rw [e]; exact h.cells (g := g) rfl j v hv) (bcells_oneP l)

set_option maxRecDepth 100000 in
set_option maxHeartbeats 2000000 in
theorem bytes_csi_m {w : World} {c m : Int} {ps l d : List Int} {a1 a2 : Option Addr} {c1 c2 : Nat} (eight : Bool) (hc : 64 ≤ c ∧ c ≤ 126) (hm : 60 ≤ m ∧ m ≤ 63) (hp : NumsL ps) (hl : IntsOk l)
    (hr : HasRow w 3 (.slice a1 ps.length c1) ps.length (icells ps)) (hT : tabT w)
    (hck : ∀ w', Gr w w' → Calls Tryd.prog 48 #[.agg #[.int .i64 4, .int .u8 c, .int .u8 m, .slice a1 ps.length c1, .string (strOf l), .slice a2 0 c2]] w' fun e w2 => e = .returned (.int .i64 0) ∧ Gr w' w2) :
    Calls Tryd.prog 39 #[.agg #[.int .i64 4, .int .u8 c, .int .u8 m, .slice a1 ps.length c1, .string (strOf l), .slice a2 0 c2], .bool eight] w (TBytes w (bytesR ⟨4, c, m, ps, l, []⟩ eight)) := by
  have hb0 := heap_alloc_new w (.cells #[.int .i64 4, .int .u8 c, .int .u8 m, .slice a1 ps.length c1, .string (strOf l), .slice a2 0 c2] 34)
  have hw0 := (Gr.refl w).alloc (.cells #[.int .i64 4, .int .u8 c, .int .u8 m, .slice a1 ps.length c1, .string (strOf l), .slice a2 0 c2] 34)
  obtain ⟨hrd, hcap⟩ := hr.rdi
  obtain ⟨n, hn⟩ : ∃ n, n = ps.length := ⟨_, rfl⟩
  rw [← hn] at hrd hcap hck hb0 hw0 ⊢
  clear hn
  clear hr
  obtain ⟨k, hk⟩ : ∃ k, l.length = k := ⟨_, rfl⟩
  have hk3 := hl.1
  rw [hk] at hk3
  have hss := fun w => src_str (w := w) hk fun c hc => by have := hl.2 c hc; omega
  obtain ⟨f, hf⟩ : ∃ f, (fmtR ps).length = f := ⟨_, rfl⟩
  have hf3 := fmtR_len ps
  rw [hf] at hf3
  have hfs := fun w => src_str (w := w) hf fun c hc => by have := fmtR_in ps c hc; omega
  obtain ⟨fs, hfd⟩ : ∃ fs, fs = strOf (fmtR ps) := ⟨_, rfl⟩
  have hfm := fun w' (hg : Gr w w') => fmt_walk (hrd.gr hg) hcap (hT.gr hg)
  rw [← hfd] at hfs hfm
  obtain ⟨s, hsd⟩ : ∃ s, s = strOf l := ⟨_, rfl⟩
  rw [← hsd] at hck hb0 hw0 hss ⊢
  obtain ⟨m1, m2⟩ := hm
  have hmz : (m != 0) = true := by simp; omega
  obtain ⟨cc1, cc2⟩ := hc
  have hcz : (c != 0) = true := by simp; omega
  clear hp hl hsd hfd hf hk hrd hT
  go_enter Tryd.func39, Tryd.ntmps39
  go_wp2_with (first
    | (go_at_call 48; refine (hck _ hw0).mono ?_; rintro e w2 ⟨rfl, hg2⟩; have hw2 := hw0.trans hg2; obtain ⟨t0, t1, t2, t3, t4, t5, tf⟩ := cells6 (hg2.blk hb0))
    | (go_at_call 50; refine (opens_any _ _).mono ?_; rintro e w3 ⟨rfl, rfl⟩)
    | (go_at_call 49; refine (pair_walk (w0 := w2) (l := []) eight (BRow.nil _ _) (Gr.refl _) (by simp) (by decide)).mono ?_; rintro e w4 ⟨v4, rfl, hr4, hg4⟩; obtain ⟨va4, vc4, rfl⟩ := hr4.form; have hw4 := hw2.trans hg4; obtain ⟨y0, y1, y2, y3, y4, y5, yf⟩ := cells6 ((hg2.trans hg4).blk hb0); obtain ⟨b4, hB4⟩ : ∃ b, b = [] ++ pairR (beginsR 4) eight := ⟨_, rfl⟩; unfold BRow at hr4; rw [← hB4] at hr4 ⊢; have hl4 : b4.length ≤ 2 := (by rw [hB4]; exact pairR_len _ _); have HB4 := Lib.hid hB4; clear hB4; obtain ⟨n4, hn4⟩ : ∃ n4, n4 = b4.length := ⟨_, rfl⟩; rw [← hn4] at hr4 hl4 ⊢; clear hn4)
    | (at_builtin; refine wpList_add (w0 := w2) rfl _ _ _ _ rfl 5 _ 1 bytesT u8i rfl (by omega) _ n4 _ rfl (hr4.alloc _) (hg4.alloc _) _ 1 [.int .u8 m] rfl (src_block bytesT _ (heap_alloc_new _ _) rfl (by simp [Value.oneCell'])) (by omega) ?_; intro va5 vc5 w5 hown5 hg5; obtain ⟨z0, z1, z2, z3, z4, z5, zf⟩ := cells6 ((hg2.trans hg5).blk hb0); have hw5 := hw2.trans hg5))
  clear t0 t1 t2 t3 t4 t5 tf y0 y1 y2 y3 y4 y5 yf
  have hS := fun (w9 : World) (hg : Gr w2 w9) => cells6 ((hg2.trans hg).blk hb0)
  go_region_held3 (fun w9 => Gr w2 w9 ∧ w9.cell? ⟨w.heap.size, 3, none⟩ = some (.slice a1 n c1) ∧ w9.cell? ⟨w.heap.size, 4, none⟩ = some (.string s))
    ((refine (fun hg => ⟨hg, (hS _ hg).2.2.2.1, (hS _ hg).2.2.2.2.1⟩) ?_; (repeat (first | with_reducible exact Gr.refl _ | with_reducible assumption | with_reducible refine Gr.setCell ?_ (by simp; try omega) _ | with_reducible refine Gr.alloc ?_ _ | with_reducible refine Gr.drew ?_ | with_reducible refine Gr.drewN ?_ _ | with_reducible refine Gr.trans ?_ (by assumption)))))
    (first
      | (go_at_call 51; refine (hfm _ (by (repeat (first | with_reducible exact Gr.refl _ | with_reducible assumption | with_reducible refine Gr.setCell ?_ (by simp; try omega) _ | with_reducible refine Gr.alloc ?_ _ | with_reducible refine Gr.drew ?_ | with_reducible refine Gr.drewN ?_ _ | with_reducible refine Gr.trans ?_ (by assumption))))).mono ?_; rintro e w6 ⟨rfl, hg6⟩)
      | (refine step_add (w0 := w2) (by rfl) _ _ _ _ (by rfl) 5 _ 1 bytesT u8i rfl (by omega) _ (n4 + 1) _ (by rfl) (ownsRow_gr hown5 (by (repeat (first | with_reducible exact Gr.refl _ | with_reducible assumption | with_reducible refine Gr.setCell ?_ (by simp; try omega) _ | with_reducible refine Gr.alloc ?_ _ | with_reducible refine Gr.drew ?_ | with_reducible refine Gr.drewN ?_ _ | with_reducible refine Gr.trans ?_ (by assumption))))) (by (repeat (first | with_reducible exact Gr.refl _ | with_reducible assumption | with_reducible refine Gr.setCell ?_ (by simp; try omega) _ | with_reducible refine Gr.alloc ?_ _ | with_reducible refine Gr.drew ?_ | with_reducible refine Gr.drewN ?_ _ | with_reducible refine Gr.trans ?_ (by assumption)))) _ f _ (by rfl) (hfs _) (by omega) ?_; intro va7 vc7 w7 hown7 hg7)
      | (refine step_add (w0 := w2) (by rfl) _ _ _ _ (by rfl) 5 _ 1 bytesT u8i rfl (by omega) _ (n4 + 1 + f) _ (by rfl) (ownsRow_gr hown7 (by (repeat (first | with_reducible exact Gr.refl _ | with_reducible assumption | with_reducible refine Gr.setCell ?_ (by simp; try omega) _ | with_reducible refine Gr.alloc ?_ _ | with_reducible refine Gr.drew ?_ | with_reducible refine Gr.drewN ?_ _ | with_reducible refine Gr.trans ?_ (by assumption))))) (by (repeat (first | with_reducible exact Gr.refl _ | with_reducible assumption | with_reducible refine Gr.setCell ?_ (by simp; try omega) _ | with_reducible refine Gr.alloc ?_ _ | with_reducible refine Gr.drew ?_ | with_reducible refine Gr.drewN ?_ _ | with_reducible refine Gr.trans ?_ (by assumption)))) _ k _ (by rfl) (hss _) (by omega) ?_; intro va8 vc8 w8 hown8 hg8))
  obtain ⟨x0, x1, x2, x3, x4, x5, xf⟩ := cells6 ((hg2.trans hg8).blk hb0)
  go_wp2_with (first
    | (at_builtin; refine wpList_add (w0 := w2) rfl _ _ _ _ rfl 5 _ 1 bytesT u8i rfl (by omega) _ (n4 + 1 + f + k) _ rfl (ownsRow_gr hown8 (by (repeat (first | with_reducible exact Gr.refl _ | with_reducible assumption | with_reducible refine Gr.setCell ?_ (by simp; try omega) _ | with_reducible refine Gr.alloc ?_ _ | with_reducible refine Gr.drew ?_ | with_reducible refine Gr.drewN ?_ _ | with_reducible refine Gr.trans ?_ (by assumption))))) (by (repeat (first | with_reducible exact Gr.refl _ | with_reducible assumption | with_reducible refine Gr.setCell ?_ (by simp; try omega) _ | with_reducible refine Gr.alloc ?_ _ | with_reducible refine Gr.drew ?_ | with_reducible refine Gr.drewN ?_ _ | with_reducible refine Gr.trans ?_ (by assumption)))) _ 1 [.int .u8 c] rfl (src_block bytesT _ (heap_alloc_new _ _) rfl (by simp [Value.oneCell'])) (by omega) ?_; intro va9 vc9 w9 hown9 hg9; have hw9 := hw2.trans hg9; obtain ⟨j0, j1, j2, j3, j4, j5, jf⟩ := cells6 ((hg2.trans hg9).blk hb0)))
  go_ret2
  refine ⟨_, rfl, ⟨w2, hw2, BRow.of hown9 ?_⟩, hw2.trans hg9⟩
  rw [HB4.out]
  have hm0 : m ≠ 0 := by omega
  simp [bytesR, bcells, begins_eq, hm0]

set_option maxRecDepth 100000 in
set_option maxHeartbeats 2000000 in
theorem bytes_csi {w : World} {c m : Int} {ps l d : List Int} {a1 a2 : Option Addr} {c1 c2 : Nat} (eight : Bool) (hc : 64 ≤ c ∧ c ≤ 126) (hp : NumsL ps) (hl : IntsOk l)
    (hr : HasRow w 3 (.slice a1 ps.length c1) ps.length (icells ps)) (hT : tabT w)
    (hck : ∀ w', Gr w w' → Calls Tryd.prog 48 #[.agg #[.int .i64 4, .int .u8 c, .int .u8 0, .slice a1 ps.length c1, .string (strOf l), .slice a2 0 c2]] w' fun e w2 => e = .returned (.int .i64 0) ∧ Gr w' w2) :
    Calls Tryd.prog 39 #[.agg #[.int .i64 4, .int .u8 c, .int .u8 0, .slice a1 ps.length c1, .string (strOf l), .slice a2 0 c2], .bool eight] w (TBytes w (bytesR ⟨4, c, 0, ps, l, []⟩ eight)) := by
  have hb0 := heap_alloc_new w (.cells #[.int .i64 4, .int .u8 c, .int .u8 0, .slice a1 ps.length c1, .string (strOf l), .slice a2 0 c2] 34)
  have hw0 := (Gr.refl w).alloc (.cells #[.int .i64 4, .int .u8 c, .int .u8 0, .slice a1 ps.length c1, .string (strOf l), .slice a2 0 c2] 34)
  obtain ⟨hrd, hcap⟩ := hr.rdi
  obtain ⟨n, hn⟩ : ∃ n, n = ps.length := ⟨_, rfl⟩
  rw [← hn] at hrd hcap hck hb0 hw0 ⊢
  clear hn
  clear hr
  obtain ⟨k, hk⟩ : ∃ k, l.length = k := ⟨_, rfl⟩
  have hk3 := hl.1
  rw [hk] at hk3
  have hss := fun w => src_str (w := w) hk fun c hc => by have := hl.2 c hc; omega
  obtain ⟨f, hf⟩ : ∃ f, (fmtR ps).length = f := ⟨_, rfl⟩
  have hf3 := fmtR_len ps
  rw [hf] at hf3
  have hfs := fun w => src_str (w := w) hf fun c hc => by have := fmtR_in ps c hc; omega
  obtain ⟨fs, hfd⟩ : ∃ fs, fs = strOf (fmtR ps) := ⟨_, rfl⟩
  have hfm := fun w' (hg : Gr w w') => fmt_walk (hrd.gr hg) hcap (hT.gr hg)
  rw [← hfd] at hfs hfm
  obtain ⟨s, hsd⟩ : ∃ s, s = strOf l := ⟨_, rfl⟩
  rw [← hsd] at hck hb0 hw0 hss ⊢
  obtain ⟨cc1, cc2⟩ := hc
  have hcz : (c != 0) = true := by simp; omega
  clear hp hl hsd hfd hf hk hrd hT
  go_enter Tryd.func39, Tryd.ntmps39
  go_wp2_with (first
    | (go_at_call 48; refine (hck _ hw0).mono ?_; rintro e w2 ⟨rfl, hg2⟩; have hw2 := hw0.trans hg2; obtain ⟨t0, t1, t2, t3, t4, t5, tf⟩ := cells6 (hg2.blk hb0))
    | (go_at_call 50; refine (opens_any _ _).mono ?_; rintro e w3 ⟨rfl, rfl⟩)
    | (go_at_call 49; refine (pair_walk (w0 := w2) (l := []) eight (BRow.nil _ _) (Gr.refl _) (by simp) (by decide)).mono ?_; rintro e w4 ⟨v4, rfl, hr4, hg4⟩; obtain ⟨va4, vc4, rfl⟩ := hr4.form; have hw4 := hw2.trans hg4; obtain ⟨y0, y1, y2, y3, y4, y5, yf⟩ := cells6 ((hg2.trans hg4).blk hb0); obtain ⟨b4, hB4⟩ : ∃ b, b = [] ++ pairR (beginsR 4) eight := ⟨_, rfl⟩; unfold BRow at hr4; rw [← hB4] at hr4 ⊢; have hl4 : b4.length ≤ 2 := (by rw [hB4]; exact pairR_len _ _); have HB4 := Lib.hid hB4; clear hB4; obtain ⟨n4, hn4⟩ : ∃ n4, n4 = b4.length := ⟨_, rfl⟩; rw [← hn4] at hr4 hl4 ⊢; clear hn4))
  clear t0 t1 t2 t3 t4 t5 tf y0 y1 y2 y3 y4 y5 yf
  have hS := fun (w9 : World) (hg : Gr w2 w9) => cells6 ((hg2.trans hg).blk hb0)
  go_region_held3 (fun w9 => Gr w2 w9 ∧ w9.cell? ⟨w.heap.size, 3, none⟩ = some (.slice a1 n c1) ∧ w9.cell? ⟨w.heap.size, 4, none⟩ = some (.string s))
    ((refine (fun hg => ⟨hg, (hS _ hg).2.2.2.1, (hS _ hg).2.2.2.2.1⟩) ?_; (repeat (first | with_reducible exact Gr.refl _ | with_reducible assumption | with_reducible refine Gr.setCell ?_ (by simp; try omega) _ | with_reducible refine Gr.alloc ?_ _ | with_reducible refine Gr.drew ?_ | with_reducible refine Gr.drewN ?_ _ | with_reducible refine Gr.trans ?_ (by assumption)))))
    (first
      | (go_at_call 51; refine (hfm _ (by (repeat (first | with_reducible exact Gr.refl _ | with_reducible assumption | with_reducible refine Gr.setCell ?_ (by simp; try omega) _ | with_reducible refine Gr.alloc ?_ _ | with_reducible refine Gr.drew ?_ | with_reducible refine Gr.drewN ?_ _ | with_reducible refine Gr.trans ?_ (by assumption))))).mono ?_; rintro e w6 ⟨rfl, hg6⟩)
      | (refine step_add (w0 := w2) (by rfl) _ _ _ _ (by rfl) 5 _ 1 bytesT u8i rfl (by omega) _ (n4) _ (by rfl) (ownsRow_gr hr4 (by (repeat (first | with_reducible exact Gr.refl _ | with_reducible assumption | with_reducible refine Gr.setCell ?_ (by simp; try omega) _ | with_reducible refine Gr.alloc ?_ _ | with_reducible refine Gr.drew ?_ | with_reducible refine Gr.drewN ?_ _ | with_reducible refine Gr.trans ?_ (by assumption))))) (by (repeat (first | with_reducible exact Gr.refl _ | with_reducible assumption | with_reducible refine Gr.setCell ?_ (by simp; try omega) _ | with_reducible refine Gr.alloc ?_ _ | with_reducible refine Gr.drew ?_ | with_reducible refine Gr.drewN ?_ _ | with_reducible refine Gr.trans ?_ (by assumption)))) _ f _ (by rfl) (hfs _) (by omega) ?_; intro va7 vc7 w7 hown7 hg7)
      | (refine step_add (w0 := w2) (by rfl) _ _ _ _ (by rfl) 5 _ 1 bytesT u8i rfl (by omega) _ (n4 + f) _ (by rfl) (ownsRow_gr hown7 (by (repeat (first | with_reducible exact Gr.refl _ | with_reducible assumption | with_reducible refine Gr.setCell ?_ (by simp; try omega) _ | with_reducible refine Gr.alloc ?_ _ | with_reducible refine Gr.drew ?_ | with_reducible refine Gr.drewN ?_ _ | with_reducible refine Gr.trans ?_ (by assumption))))) (by (repeat (first | with_reducible exact Gr.refl _ | with_reducible assumption | with_reducible refine Gr.setCell ?_ (by simp; try omega) _ | with_reducible refine Gr.alloc ?_ _ | with_reducible refine Gr.drew ?_ | with_reducible refine Gr.drewN ?_ _ | with_reducible refine Gr.trans ?_ (by assumption)))) _ k _ (by rfl) (hss _) (by omega) ?_; intro va8 vc8 w8 hown8 hg8))
  obtain ⟨x0, x1, x2, x3, x4, x5, xf⟩ := cells6 ((hg2.trans hg8).blk hb0)
  go_wp2_with (first
    | (at_builtin; refine wpList_add (w0 := w2) rfl _ _ _ _ rfl 5 _ 1 bytesT u8i rfl (by omega) _ (n4 + f + k) _ rfl (ownsRow_gr hown8 (by (repeat (first | with_reducible exact Gr.refl _ | with_reducible assumption | with_reducible refine Gr.setCell ?_ (by simp; try omega) _ | with_reducible refine Gr.alloc ?_ _ | with_reducible refine Gr.drew ?_ | with_reducible refine Gr.drewN ?_ _ | with_reducible refine Gr.trans ?_ (by assumption))))) (by (repeat (first | with_reducible exact Gr.refl _ | with_reducible assumption | with_reducible refine Gr.setCell ?_ (by simp; try omega) _ | with_reducible refine Gr.alloc ?_ _ | with_reducible refine Gr.drew ?_ | with_reducible refine Gr.drewN ?_ _ | with_reducible refine Gr.trans ?_ (by assumption)))) _ 1 [.int .u8 c] rfl (src_block bytesT _ (heap_alloc_new _ _) rfl (by simp [Value.oneCell'])) (by omega) ?_; intro va9 vc9 w9 hown9 hg9; have hw9 := hw2.trans hg9; obtain ⟨j0, j1, j2, j3, j4, j5, jf⟩ := cells6 ((hg2.trans hg9).blk hb0)))
  go_ret2
  refine ⟨_, rfl, ⟨w2, hw2, BRow.of hown9 ?_⟩, hw2.trans hg9⟩
  rw [HB4.out]
  simp [bytesR, bcells, begins_eq]

set_option maxRecDepth 100000 in
set_option maxHeartbeats 2000000 in
theorem bytes_dcs_m {w : World} {c m : Int} {ps l d : List Int} {a1 a2 : Option Addr} {c1 c2 : Nat} (eight : Bool) (hc : 64 ≤ c ∧ c ≤ 126) (hm : 60 ≤ m ∧ m ≤ 63) (hp : NumsL ps) (hl : IntsOk l) (hdd : DatOk d) (hrd0 : HasRow w 5 (.slice a2 d.length c2) d.length (bcells d))
    (hr : HasRow w 3 (.slice a1 ps.length c1) ps.length (icells ps)) (hT : tabT w)
    (hck : ∀ w', Gr w w' → Calls Tryd.prog 48 #[.agg #[.int .i64 5, .int .u8 c, .int .u8 m, .slice a1 ps.length c1, .string (strOf l), .slice a2 d.length c2]] w' fun e w2 => e = .returned (.int .i64 0) ∧ Gr w' w2) :
    Calls Tryd.prog 39 #[.agg #[.int .i64 5, .int .u8 c, .int .u8 m, .slice a1 ps.length c1, .string (strOf l), .slice a2 d.length c2], .bool eight] w (TBytes w (bytesR ⟨5, c, m, ps, l, d⟩ eight)) := by
  have hb0 := heap_alloc_new w (.cells #[.int .i64 5, .int .u8 c, .int .u8 m, .slice a1 ps.length c1, .string (strOf l), .slice a2 d.length c2] 34)
  have hw0 := (Gr.refl w).alloc (.cells #[.int .i64 5, .int .u8 c, .int .u8 m, .slice a1 ps.length c1, .string (strOf l), .slice a2 d.length c2] 34)
  obtain ⟨hrd, hcap⟩ := hr.rdi
  obtain ⟨n, hn⟩ : ∃ n, n = ps.length := ⟨_, rfl⟩
  rw [← hn] at hrd hcap hck hb0 hw0 ⊢
  clear hn
  clear hr
  obtain ⟨nd, hnd⟩ : ∃ nd, nd = d.length := ⟨_, rfl⟩
  have hd4 := hdd.1
  rw [← hnd] at hck hb0 hw0 hrd0 hd4 ⊢
  clear hnd hdd
  obtain ⟨k, hk⟩ : ∃ k, l.length = k := ⟨_, rfl⟩
  have hk3 := hl.1
  rw [hk] at hk3
  have hss := fun w => src_str (w := w) hk fun c hc => by have := hl.2 c hc; omega
  obtain ⟨f, hf⟩ : ∃ f, (fmtR ps).length = f := ⟨_, rfl⟩
  have hf3 := fmtR_len ps
  rw [hf] at hf3
  have hfs := fun w => src_str (w := w) hf fun c hc => by have := fmtR_in ps c hc; omega
  obtain ⟨fs, hfd⟩ : ∃ fs, fs = strOf (fmtR ps) := ⟨_, rfl⟩
  have hfm := fun w' (hg : Gr w w') => fmt_walk (hrd.gr hg) hcap (hT.gr hg)
  rw [← hfd] at hfs hfm
  obtain ⟨s, hsd⟩ : ∃ s, s = strOf l := ⟨_, rfl⟩
  rw [← hsd] at hck hb0 hw0 hss ⊢
  obtain ⟨m1, m2⟩ := hm
  have hmz : (m != 0) = true := by simp; omega
  obtain ⟨cc1, cc2⟩ := hc
  have hcz : (c != 0) = true := by simp; omega
  clear hp hl hsd hfd hf hk hrd hT
  go_enter Tryd.func39, Tryd.ntmps39
  go_wp2_with (first
    | (go_at_call 48; refine (hck _ hw0).mono ?_; rintro e w2 ⟨rfl, hg2⟩; have hw2 := hw0.trans hg2; obtain ⟨t0, t1, t2, t3, t4, t5, tf⟩ := cells6 (hg2.blk hb0))
    | (go_at_call 50; refine (opens_any _ _).mono ?_; rintro e w3 ⟨rfl, rfl⟩)
    | (go_at_call 49; refine (pair_walk (w0 := w2) (l := []) eight (BRow.nil _ _) (Gr.refl _) (by simp) (by decide)).mono ?_; rintro e w4 ⟨v4, rfl, hr4, hg4⟩; obtain ⟨va4, vc4, rfl⟩ := hr4.form; have hw4 := hw2.trans hg4; obtain ⟨y0, y1, y2, y3, y4, y5, yf⟩ := cells6 ((hg2.trans hg4).blk hb0); obtain ⟨b4, hB4⟩ : ∃ b, b = [] ++ pairR (beginsR 5) eight := ⟨_, rfl⟩; unfold BRow at hr4; rw [← hB4] at hr4 ⊢; have hl4 : b4.length ≤ 2 := (by rw [hB4]; exact pairR_len _ _); have HB4 := Lib.hid hB4; clear hB4; obtain ⟨n4, hn4⟩ : ∃ n4, n4 = b4.length := ⟨_, rfl⟩; rw [← hn4] at hr4 hl4 ⊢; clear hn4)
    | (at_builtin; refine wpList_add (w0 := w2) rfl _ _ _ _ rfl 5 _ 1 bytesT u8i rfl (by omega) _ n4 _ rfl (hr4.alloc _) (hg4.alloc _) _ 1 [.int .u8 m] rfl (src_block bytesT _ (heap_alloc_new _ _) rfl (by simp [Value.oneCell'])) (by omega) ?_; intro va5 vc5 w5 hown5 hg5; obtain ⟨z0, z1, z2, z3, z4, z5, zf⟩ := cells6 ((hg2.trans hg5).blk hb0); have hw5 := hw2.trans hg5))
  clear t0 t1 t2 t3 t4 t5 tf y0 y1 y2 y3 y4 y5 yf
  have hS := fun (w9 : World) (hg : Gr w2 w9) => cells6 ((hg2.trans hg).blk hb0)
  go_region_held3 (fun w9 => Gr w2 w9 ∧ w9.cell? ⟨w.heap.size, 3, none⟩ = some (.slice a1 n c1) ∧ w9.cell? ⟨w.heap.size, 4, none⟩ = some (.string s))
    ((refine (fun hg => ⟨hg, (hS _ hg).2.2.2.1, (hS _ hg).2.2.2.2.1⟩) ?_; (repeat (first | with_reducible exact Gr.refl _ | with_reducible assumption | with_reducible refine Gr.setCell ?_ (by simp; try omega) _ | with_reducible refine Gr.alloc ?_ _ | with_reducible refine Gr.drew ?_ | with_reducible refine Gr.drewN ?_ _ | with_reducible refine Gr.trans ?_ (by assumption)))))
    (first
      | (go_at_call 51; refine (hfm _ (by (repeat (first | with_reducible exact Gr.refl _ | with_reducible assumption | with_reducible refine Gr.setCell ?_ (by simp; try omega) _ | with_reducible refine Gr.alloc ?_ _ | with_reducible refine Gr.drew ?_ | with_reducible refine Gr.drewN ?_ _ | with_reducible refine Gr.trans ?_ (by assumption))))).mono ?_; rintro e w6 ⟨rfl, hg6⟩)
      | (refine step_add (w0 := w2) (by rfl) _ _ _ _ (by rfl) 5 _ 1 bytesT u8i rfl (by omega) _ (n4 + 1) _ (by rfl) (ownsRow_gr hown5 (by (repeat (first | with_reducible exact Gr.refl _ | with_reducible assumption | with_reducible refine Gr.setCell ?_ (by simp; try omega) _ | with_reducible refine Gr.alloc ?_ _ | with_reducible refine Gr.drew ?_ | with_reducible refine Gr.drewN ?_ _ | with_reducible refine Gr.trans ?_ (by assumption))))) (by (repeat (first | with_reducible exact Gr.refl _ | with_reducible assumption | with_reducible refine Gr.setCell ?_ (by simp; try omega) _ | with_reducible refine Gr.alloc ?_ _ | with_reducible refine Gr.drew ?_ | with_reducible refine Gr.drewN ?_ _ | with_reducible refine Gr.trans ?_ (by assumption)))) _ f _ (by rfl) (hfs _) (by omega) ?_; intro va7 vc7 w7 hown7 hg7)
      | (refine step_add (w0 := w2) (by rfl) _ _ _ _ (by rfl) 5 _ 1 bytesT u8i rfl (by omega) _ (n4 + 1 + f) _ (by rfl) (ownsRow_gr hown7 (by (repeat (first | with_reducible exact Gr.refl _ | with_reducible assumption | with_reducible refine Gr.setCell ?_ (by simp; try omega) _ | with_reducible refine Gr.alloc ?_ _ | with_reducible refine Gr.drew ?_ | with_reducible refine Gr.drewN ?_ _ | with_reducible refine Gr.trans ?_ (by assumption))))) (by (repeat (first | with_reducible exact Gr.refl _ | with_reducible assumption | with_reducible refine Gr.setCell ?_ (by simp; try omega) _ | with_reducible refine Gr.alloc ?_ _ | with_reducible refine Gr.drew ?_ | with_reducible refine Gr.drewN ?_ _ | with_reducible refine Gr.trans ?_ (by assumption)))) _ k _ (by rfl) (hss _) (by omega) ?_; intro va8 vc8 w8 hown8 hg8))
  obtain ⟨x0, x1, x2, x3, x4, x5, xf⟩ := cells6 ((hg2.trans hg8).blk hb0)
  go_wp2_with (first
    | (at_builtin; refine wpList_add (w0 := w2) rfl _ _ _ _ rfl 5 _ 1 bytesT u8i rfl (by omega) _ (n4 + 1 + f + k) _ rfl (ownsRow_gr hown8 (by (repeat (first | with_reducible exact Gr.refl _ | with_reducible assumption | with_reducible refine Gr.setCell ?_ (by simp; try omega) _ | with_reducible refine Gr.alloc ?_ _ | with_reducible refine Gr.drew ?_ | with_reducible refine Gr.drewN ?_ _ | with_reducible refine Gr.trans ?_ (by assumption))))) (by (repeat (first | with_reducible exact Gr.refl _ | with_reducible assumption | with_reducible refine Gr.setCell ?_ (by simp; try omega) _ | with_reducible refine Gr.alloc ?_ _ | with_reducible refine Gr.drew ?_ | with_reducible refine Gr.drewN ?_ _ | with_reducible refine Gr.trans ?_ (by assumption)))) _ 1 [.int .u8 c] rfl (src_block bytesT _ (heap_alloc_new _ _) rfl (by simp [Value.oneCell'])) (by omega) ?_; intro va9 vc9 w9 hown9 hg9; have hw9 := hw2.trans hg9; obtain ⟨j0, j1, j2, j3, j4, j5, jf⟩ := cells6 ((hg2.trans hg9).blk hb0))
    | (at_builtin; refine wpList_add (w0 := w2) rfl _ _ _ _ rfl 5 _ 1 bytesT u8i rfl (by omega) _ (n4 + 1 + f + k + 1) _ rfl (ownsRow_gr hown9 (by (repeat (first | with_reducible exact Gr.refl _ | with_reducible assumption | with_reducible refine Gr.setCell ?_ (by simp; try omega) _ | with_reducible refine Gr.alloc ?_ _ | with_reducible refine Gr.drew ?_ | with_reducible refine Gr.drewN ?_ _ | with_reducible refine Gr.trans ?_ (by assumption))))) (by (repeat (first | with_reducible exact Gr.refl _ | with_reducible assumption | with_reducible refine Gr.setCell ?_ (by simp; try omega) _ | with_reducible refine Gr.alloc ?_ _ | with_reducible refine Gr.drew ?_ | with_reducible refine Gr.drewN ?_ _ | with_reducible refine Gr.trans ?_ (by assumption)))) _ nd _ rfl (src_has (hrd0.gr (hw2.trans hg9))) (by omega) ?_; intro va10 vc10 w10 hown10 hg10; have hr10 : BRow w2 w10 _ (b4 ++ [m] ++ fmtR ps ++ l ++ [c] ++ d) := BRow.of hown10 (by simp [bcells]))
    | (go_at_call 49; refine (pair_walk (w0 := w2) eight hr10 hg10 (by have := hr10.len; omega) (by decide)).mono ?_; rintro e w11 ⟨v11, rfl, hr11, hg11⟩; obtain ⟨va11, vc11, rfl⟩ := hr11.form; obtain ⟨b11, hB11⟩ : ∃ b, b = (b4 ++ [m] ++ fmtR ps ++ l ++ [c] ++ d) ++ pairR 92 eight := ⟨_, rfl⟩; rw [← hB11] at hr11 ⊢; have HB11 := Lib.hid hB11; clear hB11))
  go_ret2
  have hfin : bytesR ⟨5, c, m, ps, l, d⟩ eight = (b4 ++ [m] ++ fmtR ps ++ l ++ [c] ++ d) ++ pairR 92 eight := by
    rw [HB4.out]
    have hm0 : m ≠ 0 := by omega
    simp [bytesR, begins_eq, hm0]
  rw [hfin, ← HB11.out]
  exact ⟨_, rfl, ⟨w2, hw2, hr11⟩, hw2.trans hg11⟩

set_option maxRecDepth 100000 in
set_option maxHeartbeats 2000000 in
theorem bytes_dcs {w : World} {c m : Int} {ps l d : List Int} {a1 a2 : Option Addr} {c1 c2 : Nat} (eight : Bool) (hc : 64 ≤ c ∧ c ≤ 126) (hp : NumsL ps) (hl : IntsOk l) (hdd : DatOk d) (hrd0 : HasRow w 5 (.slice a2 d.length c2) d.length (bcells d))
    (hr : HasRow w 3 (.slice a1 ps.length c1) ps.length (icells ps)) (hT : tabT w)
    (hck : ∀ w', Gr w w' → Calls Tryd.prog 48 #[.agg #[.int .i64 5, .int .u8 c, .int .u8 0, .slice a1 ps.length c1, .string (strOf l), .slice a2 d.length c2]] w' fun e w2 => e = .returned (.int .i64 0) ∧ Gr w' w2) :
    Calls Tryd.prog 39 #[.agg #[.int .i64 5, .int .u8 c, .int .u8 0, .slice a1 ps.length c1, .string (strOf l), .slice a2 d.length c2], .bool eight] w (TBytes w (bytesR ⟨5, c, 0, ps, l, d⟩ eight)) := by
  have hb0 := heap_alloc_new w (.cells #[.int .i64 5, .int .u8 c, .int .u8 0, .slice a1 ps.length c1, .string (strOf l), .slice a2 d.length c2] 34)
  have hw0 := (Gr.refl w).alloc (.cells #[.int .i64 5, .int .u8 c, .int .u8 0, .slice a1 ps.length c1, .string (strOf l), .slice a2 d.length c2] 34)
  obtain ⟨hrd, hcap⟩ := hr.rdi
  obtain ⟨n, hn⟩ : ∃ n, n = ps.length := ⟨_, rfl⟩
  rw [← hn] at hrd hcap hck hb0 hw0 ⊢
  clear hn
  clear hr
  obtain ⟨nd, hnd⟩ : ∃ nd, nd = d.length := ⟨_, rfl⟩
  have hd4 := hdd.1
  rw [← hnd] at hck hb0 hw0 hrd0 hd4 ⊢
  clear hnd hdd
  obtain ⟨k, hk⟩ : ∃ k, l.length = k := ⟨_, rfl⟩
  have hk3 := hl.1
  rw [hk] at hk3
  have hss := fun w => src_str (w := w) hk fun c hc => by have := hl.2 c hc; omega
  obtain ⟨f, hf⟩ : ∃ f, (fmtR ps).length = f := ⟨_, rfl⟩
  have hf3 := fmtR_len ps
  rw [hf] at hf3
  have hfs := fun w => src_str (w := w) hf fun c hc => by have := fmtR_in ps c hc; omega
  obtain ⟨fs, hfd⟩ : ∃ fs, fs = strOf (fmtR ps) := ⟨_, rfl⟩
  have hfm := fun w' (hg : Gr w w') => fmt_walk (hrd.gr hg) hcap (hT.gr hg)
  rw [← hfd] at hfs hfm
  obtain ⟨s, hsd⟩ : ∃ s, s = strOf l := ⟨_, rfl⟩
  rw [← hsd] at hck hb0 hw0 hss ⊢
  obtain ⟨cc1, cc2⟩ := hc
  have hcz : (c != 0) = true := by simp; omega
  clear hp hl hsd hfd hf hk hrd hT
  go_enter Tryd.func39, Tryd.ntmps39
  go_wp2_with (first
    | (go_at_call 48; refine (hck _ hw0).mono ?_; rintro e w2 ⟨rfl, hg2⟩; have hw2 := hw0.trans hg2; obtain ⟨t0, t1, t2, t3, t4, t5, tf⟩ := cells6 (hg2.blk hb0))
    | (go_at_call 50; refine (opens_any _ _).mono ?_; rintro e w3 ⟨rfl, rfl⟩)
    | (go_at_call 49; refine (pair_walk (w0 := w2) (l := []) eight (BRow.nil _ _) (Gr.refl _) (by simp) (by decide)).mono ?_; rintro e w4 ⟨v4, rfl, hr4, hg4⟩; obtain ⟨va4, vc4, rfl⟩ := hr4.form; have hw4 := hw2.trans hg4; obtain ⟨y0, y1, y2, y3, y4, y5, yf⟩ := cells6 ((hg2.trans hg4).blk hb0); obtain ⟨b4, hB4⟩ : ∃ b, b = [] ++ pairR (beginsR 5) eight := ⟨_, rfl⟩; unfold BRow at hr4; rw [← hB4] at hr4 ⊢; have hl4 : b4.length ≤ 2 := (by rw [hB4]; exact pairR_len _ _); have HB4 := Lib.hid hB4; clear hB4; obtain ⟨n4, hn4⟩ : ∃ n4, n4 = b4.length := ⟨_, rfl⟩; rw [← hn4] at hr4 hl4 ⊢; clear hn4))
  clear t0 t1 t2 t3 t4 t5 tf y0 y1 y2 y3 y4 y5 yf
  have hS := fun (w9 : World) (hg : Gr w2 w9) => cells6 ((hg2.trans hg).blk hb0)
  go_region_held3 (fun w9 => Gr w2 w9 ∧ w9.cell? ⟨w.heap.size, 3, none⟩ = some (.slice a1 n c1) ∧ w9.cell? ⟨w.heap.size, 4, none⟩ = some (.string s))
    ((refine (fun hg => ⟨hg, (hS _ hg).2.2.2.1, (hS _ hg).2.2.2.2.1⟩) ?_; (repeat (first | with_reducible exact Gr.refl _ | with_reducible assumption | with_reducible refine Gr.setCell ?_ (by simp; try omega) _ | with_reducible refine Gr.alloc ?_ _ | with_reducible refine Gr.drew ?_ | with_reducible refine Gr.drewN ?_ _ | with_reducible refine Gr.trans ?_ (by assumption)))))
    (first
      | (go_at_call 51; refine (hfm _ (by (repeat (first | with_reducible exact Gr.refl _ | with_reducible assumption | with_reducible refine Gr.setCell ?_ (by simp; try omega) _ | with_reducible refine Gr.alloc ?_ _ | with_reducible refine Gr.drew ?_ | with_reducible refine Gr.drewN ?_ _ | with_reducible refine Gr.trans ?_ (by assumption))))).mono ?_; rintro e w6 ⟨rfl, hg6⟩)
      | (refine step_add (w0 := w2) (by rfl) _ _ _ _ (by rfl) 5 _ 1 bytesT u8i rfl (by omega) _ (n4) _ (by rfl) (ownsRow_gr hr4 (by (repeat (first | with_reducible exact Gr.refl _ | with_reducible assumption | with_reducible refine Gr.setCell ?_ (by simp; try omega) _ | with_reducible refine Gr.alloc ?_ _ | with_reducible refine Gr.drew ?_ | with_reducible refine Gr.drewN ?_ _ | with_reducible refine Gr.trans ?_ (by assumption))))) (by (repeat (first | with_reducible exact Gr.refl _ | with_reducible assumption | with_reducible refine Gr.setCell ?_ (by simp; try omega) _ | with_reducible refine Gr.alloc ?_ _ | with_reducible refine Gr.drew ?_ | with_reducible refine Gr.drewN ?_ _ | with_reducible refine Gr.trans ?_ (by assumption)))) _ f _ (by rfl) (hfs _) (by omega) ?_; intro va7 vc7 w7 hown7 hg7)
      | (refine step_add (w0 := w2) (by rfl) _ _ _ _ (by rfl) 5 _ 1 bytesT u8i rfl (by omega) _ (n4 + f) _ (by rfl) (ownsRow_gr hown7 (by (repeat (first | with_reducible exact Gr.refl _ | with_reducible assumption | with_reducible refine Gr.setCell ?_ (by simp; try omega) _ | with_reducible refine Gr.alloc ?_ _ | with_reducible refine Gr.drew ?_ | with_reducible refine Gr.drewN ?_ _ | with_reducible refine Gr.trans ?_ (by assumption))))) (by (repeat (first | with_reducible exact Gr.refl _ | with_reducible assumption | with_reducible refine Gr.setCell ?_ (by simp; try omega) _ | with_reducible refine Gr.alloc ?_ _ | with_reducible refine Gr.drew ?_ | with_reducible refine Gr.drewN ?_ _ | with_reducible refine Gr.trans ?_ (by assumption)))) _ k _ (by rfl) (hss _) (by omega) ?_; intro va8 vc8 w8 hown8 hg8))
  obtain ⟨x0, x1, x2, x3, x4, x5, xf⟩ := cells6 ((hg2.trans hg8).blk hb0)
  go_wp2_with (first
    | (at_builtin; refine wpList_add (w0 := w2) rfl _ _ _ _ rfl 5 _ 1 bytesT u8i rfl (by omega) _ (n4 + f + k) _ rfl (ownsRow_gr hown8 (by (repeat (first | with_reducible exact Gr.refl _ | with_reducible assumption | with_reducible refine Gr.setCell ?_ (by simp; try omega) _ | with_reducible refine Gr.alloc ?_ _ | with_reducible refine Gr.drew ?_ | with_reducible refine Gr.drewN ?_ _ | with_reducible refine Gr.trans ?_ (by assumption))))) (by (repeat (first | with_reducible exact Gr.refl _ | with_reducible assumption | with_reducible refine Gr.setCell ?_ (by simp; try omega) _ | with_reducible refine Gr.alloc ?_ _ | with_reducible refine Gr.drew ?_ | with_reducible refine Gr.drewN ?_ _ | with_reducible refine Gr.trans ?_ (by assumption)))) _ 1 [.int .u8 c] rfl (src_block bytesT _ (heap_alloc_new _ _) rfl (by simp [Value.oneCell'])) (by omega) ?_; intro va9 vc9 w9 hown9 hg9; have hw9 := hw2.trans hg9; obtain ⟨j0, j1, j2, j3, j4, j5, jf⟩ := cells6 ((hg2.trans hg9).blk hb0))
    | (at_builtin; refine wpList_add (w0 := w2) rfl _ _ _ _ rfl 5 _ 1 bytesT u8i rfl (by omega) _ (n4 + f + k + 1) _ rfl (ownsRow_gr hown9 (by (repeat (first | with_reducible exact Gr.refl _ | with_reducible assumption | with_reducible refine Gr.setCell ?_ (by simp; try omega) _ | with_reducible refine Gr.alloc ?_ _ | with_reducible refine Gr.drew ?_ | with_reducible refine Gr.drewN ?_ _ | with_reducible refine Gr.trans ?_ (by assumption))))) (by (repeat (first | with_reducible exact Gr.refl _ | with_reducible assumption | with_reducible refine Gr.setCell ?_ (by simp; try omega) _ | with_reducible refine Gr.alloc ?_ _ | with_reducible refine Gr.drew ?_ | with_reducible refine Gr.drewN ?_ _ | with_reducible refine Gr.trans ?_ (by assumption)))) _ nd _ rfl (src_has (hrd0.gr (hw2.trans hg9))) (by omega) ?_; intro va10 vc10 w10 hown10 hg10; have hr10 : BRow w2 w10 _ (b4 ++ fmtR ps ++ l ++ [c] ++ d) := BRow.of hown10 (by simp [bcells]))
    | (go_at_call 49; refine (pair_walk (w0 := w2) eight hr10 hg10 (by have := hr10.len; omega) (by decide)).mono ?_; rintro e w11 ⟨v11, rfl, hr11, hg11⟩; obtain ⟨va11, vc11, rfl⟩ := hr11.form; obtain ⟨b11, hB11⟩ : ∃ b, b = (b4 ++ fmtR ps ++ l ++ [c] ++ d) ++ pairR 92 eight := ⟨_, rfl⟩; rw [← hB11] at hr11 ⊢; have HB11 := Lib.hid hB11; clear hB11))
  go_ret2
  have hfin : bytesR ⟨5, c, 0, ps, l, d⟩ eight = (b4 ++ fmtR ps ++ l ++ [c] ++ d) ++ pairR 92 eight := by
    rw [HB4.out]
    skip
    simp [bytesR, begins_eq]
  rw [hfin, ← HB11.out]
  exact ⟨_, rfl, ⟨w2, hw2, hr11⟩, hw2.trans hg11⟩

set_option maxRecDepth 100000 in
set_option maxHeartbeats 2000000 in
theorem bytes_str6 {w : World} {c m : Int} {ps l d : List Int} {a1 a2 : Option Addr} {c1 c2 : Nat} (eight : Bool) (hdd : DatOk d) (hrd0 : HasRow w 5 (.slice a2 d.length c2) d.length (bcells d))
    (hr : HasRow w 3 (.slice a1 0 c1) 0 (icells [])) (hT : tabT w)
    (hck : ∀ w', Gr w w' → Calls Tryd.prog 48 #[.agg #[.int .i64 6, .int .u8 0, .int .u8 0, .slice a1 0 c1, .string (strOf []), .slice a2 d.length c2]] w' fun e w2 => e = .returned (.int .i64 0) ∧ Gr w' w2) :
    Calls Tryd.prog 39 #[.agg #[.int .i64 6, .int .u8 0, .int .u8 0, .slice a1 0 c1, .string (strOf []), .slice a2 d.length c2], .bool eight] w (TBytes w (bytesR ⟨6, 0, 0, [], [], d⟩ eight)) := by
  have hb0 := heap_alloc_new w (.cells #[.int .i64 6, .int .u8 0, .int .u8 0, .slice a1 0 c1, .string (strOf []), .slice a2 d.length c2] 34)
  have hw0 := (Gr.refl w).alloc (.cells #[.int .i64 6, .int .u8 0, .int .u8 0, .slice a1 0 c1, .string (strOf []), .slice a2 d.length c2] 34)
  obtain ⟨hrd, hcap⟩ := hr.rdi
  clear hr
  obtain ⟨nd, hnd⟩ : ∃ nd, nd = d.length := ⟨_, rfl⟩
  have hd4 := hdd.1
  rw [← hnd] at hck hb0 hw0 hrd0 hd4 ⊢
  clear hnd hdd
  obtain ⟨k, hk⟩ : ∃ k, ([] : List Int).length = k := ⟨_, rfl⟩
  have hk3 : k ≤ 3 := by rw [← hk]; decide
  have hss := fun w => src_str (w := w) hk fun c hc => by simp at hc
  obtain ⟨f, hf⟩ : ∃ f, (fmtR []).length = f := ⟨_, rfl⟩
  have hf3 := fmtR_len []
  rw [hf] at hf3
  have hfs := fun w => src_str (w := w) hf fun c hc => by have := fmtR_in [] c hc; omega
  obtain ⟨fs, hfd⟩ : ∃ fs, fs = strOf (fmtR []) := ⟨_, rfl⟩
  have hfm := fun w' (hg : Gr w w') => fmt_walk (hrd.gr hg) hcap (hT.gr hg)
  rw [← hfd] at hfs hfm
  obtain ⟨s, hsd⟩ : ∃ s, s = strOf [] := ⟨_, rfl⟩
  rw [← hsd] at hck hb0 hw0 hss ⊢
  clear hsd hfd hf hk hrd hT
  go_enter Tryd.func39, Tryd.ntmps39
  go_wp2_with (first
    | (go_at_call 48; refine (hck _ hw0).mono ?_; rintro e w2 ⟨rfl, hg2⟩; have hw2 := hw0.trans hg2; obtain ⟨t0, t1, t2, t3, t4, t5, tf⟩ := cells6 (hg2.blk hb0))
    | (go_at_call 50; refine (opens_any _ _).mono ?_; rintro e w3 ⟨rfl, rfl⟩)
    | (go_at_call 49; refine (pair_walk (w0 := w2) (l := []) eight (BRow.nil _ _) (Gr.refl _) (by simp) (by decide)).mono ?_; rintro e w4 ⟨v4, rfl, hr4, hg4⟩; obtain ⟨va4, vc4, rfl⟩ := hr4.form; have hw4 := hw2.trans hg4; obtain ⟨y0, y1, y2, y3, y4, y5, yf⟩ := cells6 ((hg2.trans hg4).blk hb0); obtain ⟨b4, hB4⟩ : ∃ b, b = [] ++ pairR (beginsR 6) eight := ⟨_, rfl⟩; unfold BRow at hr4; rw [← hB4] at hr4 ⊢; have hl4 : b4.length ≤ 2 := (by rw [hB4]; exact pairR_len _ _); have HB4 := Lib.hid hB4; clear hB4; obtain ⟨n4, hn4⟩ : ∃ n4, n4 = b4.length := ⟨_, rfl⟩; rw [← hn4] at hr4 hl4 ⊢; clear hn4))
  clear t0 t1 t2 t3 t4 t5 tf y0 y1 y2 y3 y4 y5 yf
  have hS := fun (w9 : World) (hg : Gr w2 w9) => cells6 ((hg2.trans hg).blk hb0)
  go_region_held3 (fun w9 => Gr w2 w9 ∧ w9.cell? ⟨w.heap.size, 3, none⟩ = some (.slice a1 0 c1) ∧ w9.cell? ⟨w.heap.size, 4, none⟩ = some (.string s))
    ((refine (fun hg => ⟨hg, (hS _ hg).2.2.2.1, (hS _ hg).2.2.2.2.1⟩) ?_; (repeat (first | with_reducible exact Gr.refl _ | with_reducible assumption | with_reducible refine Gr.setCell ?_ (by simp; try omega) _ | with_reducible refine Gr.alloc ?_ _ | with_reducible refine Gr.drew ?_ | with_reducible refine Gr.drewN ?_ _ | with_reducible refine Gr.trans ?_ (by assumption)))))
    (first
      | (go_at_call 51; refine (hfm _ (by (repeat (first | with_reducible exact Gr.refl _ | with_reducible assumption | with_reducible refine Gr.setCell ?_ (by simp; try omega) _ | with_reducible refine Gr.alloc ?_ _ | with_reducible refine Gr.drew ?_ | with_reducible refine Gr.drewN ?_ _ | with_reducible refine Gr.trans ?_ (by assumption))))).mono ?_; rintro e w6 ⟨rfl, hg6⟩)
      | (refine step_add (w0 := w2) (by rfl) _ _ _ _ (by rfl) 5 _ 1 bytesT u8i rfl (by omega) _ (n4) _ (by rfl) (ownsRow_gr hr4 (by (repeat (first | with_reducible exact Gr.refl _ | with_reducible assumption | with_reducible refine Gr.setCell ?_ (by simp; try omega) _ | with_reducible refine Gr.alloc ?_ _ | with_reducible refine Gr.drew ?_ | with_reducible refine Gr.drewN ?_ _ | with_reducible refine Gr.trans ?_ (by assumption))))) (by (repeat (first | with_reducible exact Gr.refl _ | with_reducible assumption | with_reducible refine Gr.setCell ?_ (by simp; try omega) _ | with_reducible refine Gr.alloc ?_ _ | with_reducible refine Gr.drew ?_ | with_reducible refine Gr.drewN ?_ _ | with_reducible refine Gr.trans ?_ (by assumption)))) _ f _ (by rfl) (hfs _) (by omega) ?_; intro va7 vc7 w7 hown7 hg7)
      | (refine step_add (w0 := w2) (by rfl) _ _ _ _ (by rfl) 5 _ 1 bytesT u8i rfl (by omega) _ (n4 + f) _ (by rfl) (ownsRow_gr hown7 (by (repeat (first | with_reducible exact Gr.refl _ | with_reducible assumption | with_reducible refine Gr.setCell ?_ (by simp; try omega) _ | with_reducible refine Gr.alloc ?_ _ | with_reducible refine Gr.drew ?_ | with_reducible refine Gr.drewN ?_ _ | with_reducible refine Gr.trans ?_ (by assumption))))) (by (repeat (first | with_reducible exact Gr.refl _ | with_reducible assumption | with_reducible refine Gr.setCell ?_ (by simp; try omega) _ | with_reducible refine Gr.alloc ?_ _ | with_reducible refine Gr.drew ?_ | with_reducible refine Gr.drewN ?_ _ | with_reducible refine Gr.trans ?_ (by assumption)))) _ k _ (by rfl) (hss _) (by omega) ?_; intro va8 vc8 w8 hown8 hg8))
  obtain ⟨x0, x1, x2, x3, x4, x5, xf⟩ := cells6 ((hg2.trans hg8).blk hb0)
  go_wp2_with (first
    | (at_builtin; refine wpList_add (w0 := w2) rfl _ _ _ _ rfl 5 _ 1 bytesT u8i rfl (by omega) _ (n4 + f + k) _ rfl (ownsRow_gr hown8 (by (repeat (first | with_reducible exact Gr.refl _ | with_reducible assumption | with_reducible refine Gr.setCell ?_ (by simp; try omega) _ | with_reducible refine Gr.alloc ?_ _ | with_reducible refine Gr.drew ?_ | with_reducible refine Gr.drewN ?_ _ | with_reducible refine Gr.trans ?_ (by assumption))))) (by (repeat (first | with_reducible exact Gr.refl _ | with_reducible assumption | with_reducible refine Gr.setCell ?_ (by simp; try omega) _ | with_reducible refine Gr.alloc ?_ _ | with_reducible refine Gr.drew ?_ | with_reducible refine Gr.drewN ?_ _ | with_reducible refine Gr.trans ?_ (by assumption)))) _ nd _ rfl (src_has (hrd0.gr (hw2.trans hg8))) (by omega) ?_; intro va10 vc10 w10 hown10 hg10; have hr10 : BRow w2 w10 _ (b4 ++ fmtR [] ++ [] ++ d) := BRow.of hown10 (by simp [bcells]))
    | (go_at_call 49; refine (pair_walk (w0 := w2) eight hr10 hg10 (by have := hr10.len; omega) (by decide)).mono ?_; rintro e w11 ⟨v11, rfl, hr11, hg11⟩; obtain ⟨va11, vc11, rfl⟩ := hr11.form; obtain ⟨b11, hB11⟩ : ∃ b, b = (b4 ++ fmtR [] ++ [] ++ d) ++ pairR 92 eight := ⟨_, rfl⟩; rw [← hB11] at hr11 ⊢; have HB11 := Lib.hid hB11; clear hB11))
  go_ret2
  have hfin : bytesR ⟨6, 0, 0, [], [], d⟩ eight = (b4 ++ fmtR [] ++ [] ++ d) ++ pairR 92 eight := by
    rw [HB4.out]
    skip
    simp [bytesR, begins_eq, fmtR, fmtGo]
  rw [hfin, ← HB11.out]
  exact ⟨_, rfl, ⟨w2, hw2, hr11⟩, hw2.trans hg11⟩

set_option maxRecDepth 100000 in
set_option maxHeartbeats 2000000 in
theorem bytes_str7 {w : World} {c m : Int} {ps l d : List Int} {a1 a2 : Option Addr} {c1 c2 : Nat} (eight : Bool) (hdd : DatOk d) (hrd0 : HasRow w 5 (.slice a2 d.length c2) d.length (bcells d))
    (hr : HasRow w 3 (.slice a1 0 c1) 0 (icells [])) (hT : tabT w)
    (hck : ∀ w', Gr w w' → Calls Tryd.prog 48 #[.agg #[.int .i64 7, .int .u8 0, .int .u8 0, .slice a1 0 c1, .string (strOf []), .slice a2 d.length c2]] w' fun e w2 => e = .returned (.int .i64 0) ∧ Gr w' w2) :
    Calls Tryd.prog 39 #[.agg #[.int .i64 7, .int .u8 0, .int .u8 0, .slice a1 0 c1, .string (strOf []), .slice a2 d.length c2], .bool eight] w (TBytes w (bytesR ⟨7, 0, 0, [], [], d⟩ eight)) := by
  have hb0 := heap_alloc_new w (.cells #[.int .i64 7, .int .u8 0, .int .u8 0, .slice a1 0 c1, .string (strOf []), .slice a2 d.length c2] 34)
  have hw0 := (Gr.refl w).alloc (.cells #[.int .i64 7, .int .u8 0, .int .u8 0, .slice a1 0 c1, .string (strOf []), .slice a2 d.length c2] 34)
  obtain ⟨hrd, hcap⟩ := hr.rdi
  clear hr
  obtain ⟨nd, hnd⟩ : ∃ nd, nd = d.length := ⟨_, rfl⟩
  have hd4 := hdd.1
  rw [← hnd] at hck hb0 hw0 hrd0 hd4 ⊢
  clear hnd hdd
  obtain ⟨k, hk⟩ : ∃ k, ([] : List Int).length = k := ⟨_, rfl⟩
  have hk3 : k ≤ 3 := by rw [← hk]; decide
  have hss := fun w => src_str (w := w) hk fun c hc => by simp at hc
  obtain ⟨f, hf⟩ : ∃ f, (fmtR []).length = f := ⟨_, rfl⟩
  have hf3 := fmtR_len []
  rw [hf] at hf3
  have hfs := fun w => src_str (w := w) hf fun c hc => by have := fmtR_in [] c hc; omega
  obtain ⟨fs, hfd⟩ : ∃ fs, fs = strOf (fmtR []) := ⟨_, rfl⟩
  have hfm := fun w' (hg : Gr w w') => fmt_walk (hrd.gr hg) hcap (hT.gr hg)
  rw [← hfd] at hfs hfm
  obtain ⟨s, hsd⟩ : ∃ s, s = strOf [] := ⟨_, rfl⟩
  rw [← hsd] at hck hb0 hw0 hss ⊢
  clear hsd hfd hf hk hrd hT
  go_enter Tryd.func39, Tryd.ntmps39
  go_wp2_with (first
    | (go_at_call 48; refine (hck _ hw0).mono ?_; rintro e w2 ⟨rfl, hg2⟩; have hw2 := hw0.trans hg2; obtain ⟨t0, t1, t2, t3, t4, t5, tf⟩ := cells6 (hg2.blk hb0))
    | (go_at_call 50; refine (opens_any _ _).mono ?_; rintro e w3 ⟨rfl, rfl⟩)
    | (go_at_call 49; refine (pair_walk (w0 := w2) (l := []) eight (BRow.nil _ _) (Gr.refl _) (by simp) (by decide)).mono ?_; rintro e w4 ⟨v4, rfl, hr4, hg4⟩; obtain ⟨va4, vc4, rfl⟩ := hr4.form; have hw4 := hw2.trans hg4; obtain ⟨y0, y1, y2, y3, y4, y5, yf⟩ := cells6 ((hg2.trans hg4).blk hb0); obtain ⟨b4, hB4⟩ : ∃ b, b = [] ++ pairR (beginsR 7) eight := ⟨_, rfl⟩; unfold BRow at hr4; rw [← hB4] at hr4 ⊢; have hl4 : b4.length ≤ 2 := (by rw [hB4]; exact pairR_len _ _); have HB4 := Lib.hid hB4; clear hB4; obtain ⟨n4, hn4⟩ : ∃ n4, n4 = b4.length := ⟨_, rfl⟩; rw [← hn4] at hr4 hl4 ⊢; clear hn4))
  clear t0 t1 t2 t3 t4 t5 tf y0 y1 y2 y3 y4 y5 yf
  have hS := fun (w9 : World) (hg : Gr w2 w9) => cells6 ((hg2.trans hg).blk hb0)
  go_region_held3 (fun w9 => Gr w2 w9 ∧ w9.cell? ⟨w.heap.size, 3, none⟩ = some (.slice a1 0 c1) ∧ w9.cell? ⟨w.heap.size, 4, none⟩ = some (.string s))
    ((refine (fun hg => ⟨hg, (hS _ hg).2.2.2.1, (hS _ hg).2.2.2.2.1⟩) ?_; (repeat (first | with_reducible exact Gr.refl _ | with_reducible assumption | with_reducible refine Gr.setCell ?_ (by simp; try omega) _ | with_reducible refine Gr.alloc ?_ _ | with_reducible refine Gr.drew ?_ | with_reducible refine Gr.drewN ?_ _ | with_reducible refine Gr.trans ?_ (by assumption)))))
    (first
      | (go_at_call 51; refine (hfm _ (by (repeat (first | with_reducible exact Gr.refl _ | with_reducible assumption | with_reducible refine Gr.setCell ?_ (by simp; try omega) _ | with_reducible refine Gr.alloc ?_ _ | with_reducible refine Gr.drew ?_ | with_reducible refine Gr.drewN ?_ _ | with_reducible refine Gr.trans ?_ (by assumption))))).mono ?_; rintro e w6 ⟨rfl, hg6⟩)
      | (refine step_add (w0 := w2) (by rfl) _ _ _ _ (by rfl) 5 _ 1 bytesT u8i rfl (by omega) _ (n4) _ (by rfl) (ownsRow_gr hr4 (by (repeat (first | with_reducible exact Gr.refl _ | with_reducible assumption | with_reducible refine Gr.setCell ?_ (by simp; try omega) _ | with_reducible refine Gr.alloc ?_ _ | with_reducible refine Gr.drew ?_ | with_reducible refine Gr.drewN ?_ _ | with_reducible refine Gr.trans ?_ (by assumption))))) (by (repeat (first | with_reducible exact Gr.refl _ | with_reducible assumption | with_reducible refine Gr.setCell ?_ (by simp; try omega) _ | with_reducible refine Gr.alloc ?_ _ | with_reducible refine Gr.drew ?_ | with_reducible refine Gr.drewN ?_ _ | with_reducible refine Gr.trans ?_ (by assumption)))) _ f _ (by rfl) (hfs _) (by omega) ?_; intro va7 vc7 w7 hown7 hg7)
      | (refine step_add (w0 := w2) (by rfl) _ _ _ _ (by rfl) 5 _ 1 bytesT u8i rfl (by omega) _ (n4 + f) _ (by rfl) (ownsRow_gr hown7 (by (repeat (first | with_reducible exact Gr.refl _ | with_reducible assumption | with_reducible refine Gr.setCell ?_ (by simp; try omega) _ | with_reducible refine Gr.alloc ?_ _ | with_reducible refine Gr.drew ?_ | with_reducible refine Gr.drewN ?_ _ | with_reducible refine Gr.trans ?_ (by assumption))))) (by (repeat (first | with_reducible exact Gr.refl _ | with_reducible assumption | with_reducible refine Gr.setCell ?_ (by simp; try omega) _ | with_reducible refine Gr.alloc ?_ _ | with_reducible refine Gr.drew ?_ | with_reducible refine Gr.drewN ?_ _ | with_reducible refine Gr.trans ?_ (by assumption)))) _ k _ (by rfl) (hss _) (by omega) ?_; intro va8 vc8 w8 hown8 hg8))
  obtain ⟨x0, x1, x2, x3, x4, x5, xf⟩ := cells6 ((hg2.trans hg8).blk hb0)
  go_wp2_with (first
    | (at_builtin; refine wpList_add (w0 := w2) rfl _ _ _ _ rfl 5 _ 1 bytesT u8i rfl (by omega) _ (n4 + f + k) _ rfl (ownsRow_gr hown8 (by (repeat (first | with_reducible exact Gr.refl _ | with_reducible assumption | with_reducible refine Gr.setCell ?_ (by simp; try omega) _ | with_reducible refine Gr.alloc ?_ _ | with_reducible refine Gr.drew ?_ | with_reducible refine Gr.drewN ?_ _ | with_reducible refine Gr.trans ?_ (by assumption))))) (by (repeat (first | with_reducible exact Gr.refl _ | with_reducible assumption | with_reducible refine Gr.setCell ?_ (by simp; try omega) _ | with_reducible refine Gr.alloc ?_ _ | with_reducible refine Gr.drew ?_ | with_reducible refine Gr.drewN ?_ _ | with_reducible refine Gr.trans ?_ (by assumption)))) _ nd _ rfl (src_has (hrd0.gr (hw2.trans hg8))) (by omega) ?_; intro va10 vc10 w10 hown10 hg10; have hr10 : BRow w2 w10 _ (b4 ++ fmtR [] ++ [] ++ d) := BRow.of hown10 (by simp [bcells]))
    | (go_at_call 49; refine (pair_walk (w0 := w2) eight hr10 hg10 (by have := hr10.len; omega) (by decide)).mono ?_; rintro e w11 ⟨v11, rfl, hr11, hg11⟩; obtain ⟨va11, vc11, rfl⟩ := hr11.form; obtain ⟨b11, hB11⟩ : ∃ b, b = (b4 ++ fmtR [] ++ [] ++ d) ++ pairR 92 eight := ⟨_, rfl⟩; rw [← hB11] at hr11 ⊢; have HB11 := Lib.hid hB11; clear hB11))
  go_ret2
  have hfin : bytesR ⟨7, 0, 0, [], [], d⟩ eight = (b4 ++ fmtR [] ++ [] ++ d) ++ pairR 92 eight := by
    rw [HB4.out]
    skip
    simp [bytesR, begins_eq, fmtR, fmtGo]
  rw [hfin, ← HB11.out]
  exact ⟨_, rfl, ⟨w2, hw2, hr11⟩, hw2.trans hg11⟩

set_option maxRecDepth 100000 in
set_option maxHeartbeats 2000000 in
theorem bytes_str8 {w : World} {c m : Int} {ps l d : List Int} {a1 a2 : Option Addr} {c1 c2 : Nat} (eight : Bool) (hdd : DatOk d) (hrd0 : HasRow w 5 (.slice a2 d.length c2) d.length (bcells d))
    (hr : HasRow w 3 (.slice a1 0 c1) 0 (icells [])) (hT : tabT w)
    (hck : ∀ w', Gr w w' → Calls Tryd.prog 48 #[.agg #[.int .i64 8, .int .u8 0, .int .u8 0, .slice a1 0 c1, .string (strOf []), .slice a2 d.length c2]] w' fun e w2 => e = .returned (.int .i64 0) ∧ Gr w' w2) :
    Calls Tryd.prog 39 #[.agg #[.int .i64 8, .int .u8 0, .int .u8 0, .slice a1 0 c1, .string (strOf []), .slice a2 d.length c2], .bool eight] w (TBytes w (bytesR ⟨8, 0, 0, [], [], d⟩ eight)) := by
  have hb0 := heap_alloc_new w (.cells #[.int .i64 8, .int .u8 0, .int .u8 0, .slice a1 0 c1, .string (strOf []), .slice a2 d.length c2] 34)
  have hw0 := (Gr.refl w).alloc (.cells #[.int .i64 8, .int .u8 0, .int .u8 0, .slice a1 0 c1, .string (strOf []), .slice a2 d.length c2] 34)
  obtain ⟨hrd, hcap⟩ := hr.rdi
  clear hr
  obtain ⟨nd, hnd⟩ : ∃ nd, nd = d.length := ⟨_, rfl⟩
  have hd4 := hdd.1
  rw [← hnd] at hck hb0 hw0 hrd0 hd4 ⊢
  clear hnd hdd
  obtain ⟨k, hk⟩ : ∃ k, ([] : List Int).length = k := ⟨_, rfl⟩
  have hk3 : k ≤ 3 := by rw [← hk]; decide
  have hss := fun w => src_str (w := w) hk fun c hc => by simp at hc
  obtain ⟨f, hf⟩ : ∃ f, (fmtR []).length = f := ⟨_, rfl⟩
  have hf3 := fmtR_len []
  rw [hf] at hf3
  have hfs := fun w => src_str (w := w) hf fun c hc => by have := fmtR_in [] c hc; omega
  obtain ⟨fs, hfd⟩ : ∃ fs, fs = strOf (fmtR []) := ⟨_, rfl⟩
  have hfm := fun w' (hg : Gr w w') => fmt_walk (hrd.gr hg) hcap (hT.gr hg)
  rw [← hfd] at hfs hfm
  obtain ⟨s, hsd⟩ : ∃ s, s = strOf [] := ⟨_, rfl⟩
  rw [← hsd] at hck hb0 hw0 hss ⊢
  clear hsd hfd hf hk hrd hT
  go_enter Tryd.func39, Tryd.ntmps39
  go_wp2_with (first
    | (go_at_call 48; refine (hck _ hw0).mono ?_; rintro e w2 ⟨rfl, hg2⟩; have hw2 := hw0.trans hg2; obtain ⟨t0, t1, t2, t3, t4, t5, tf⟩ := cells6 (hg2.blk hb0))
    | (go_at_call 50; refine (opens_any _ _).mono ?_; rintro e w3 ⟨rfl, rfl⟩)
    | (go_at_call 49; refine (pair_walk (w0 := w2) (l := []) eight (BRow.nil _ _) (Gr.refl _) (by simp) (by decide)).mono ?_; rintro e w4 ⟨v4, rfl, hr4, hg4⟩; obtain ⟨va4, vc4, rfl⟩ := hr4.form; have hw4 := hw2.trans hg4; obtain ⟨y0, y1, y2, y3, y4, y5, yf⟩ := cells6 ((hg2.trans hg4).blk hb0); obtain ⟨b4, hB4⟩ : ∃ b, b = [] ++ pairR (beginsR 8) eight := ⟨_, rfl⟩; unfold BRow at hr4; rw [← hB4] at hr4 ⊢; have hl4 : b4.length ≤ 2 := (by rw [hB4]; exact pairR_len _ _); have HB4 := Lib.hid hB4; clear hB4; obtain ⟨n4, hn4⟩ : ∃ n4, n4 = b4.length := ⟨_, rfl⟩; rw [← hn4] at hr4 hl4 ⊢; clear hn4))
  clear t0 t1 t2 t3 t4 t5 tf y0 y1 y2 y3 y4 y5 yf
  have hS := fun (w9 : World) (hg : Gr w2 w9) => cells6 ((hg2.trans hg).blk hb0)
  go_region_held3 (fun w9 => Gr w2 w9 ∧ w9.cell? ⟨w.heap.size, 3, none⟩ = some (.slice a1 0 c1) ∧ w9.cell? ⟨w.heap.size, 4, none⟩ = some (.string s))
    ((refine (fun hg => ⟨hg, (hS _ hg).2.2.2.1, (hS _ hg).2.2.2.2.1⟩) ?_; (repeat (first | with_reducible exact Gr.refl _ | with_reducible assumption | with_reducible refine Gr.setCell ?_ (by simp; try omega) _ | with_reducible refine Gr.alloc ?_ _ | with_reducible refine Gr.drew ?_ | with_reducible refine Gr.drewN ?_ _ | with_reducible refine Gr.trans ?_ (by assumption)))))
    (first
      | (go_at_call 51; refine (hfm _ (by (repeat (first | with_reducible exact Gr.refl _ | with_reducible assumption | with_reducible refine Gr.setCell ?_ (by simp; try omega) _ | with_reducible refine Gr.alloc ?_ _ | with_reducible refine Gr.drew ?_ | with_reducible refine Gr.drewN ?_ _ | with_reducible refine Gr.trans ?_ (by assumption))))).mono ?_; rintro e w6 ⟨rfl, hg6⟩)
      | (refine step_add (w0 := w2) (by rfl) _ _ _ _ (by rfl) 5 _ 1 bytesT u8i rfl (by omega) _ (n4) _ (by rfl) (ownsRow_gr hr4 (by (repeat (first | with_reducible exact Gr.refl _ | with_reducible assumption | with_reducible refine Gr.setCell ?_ (by simp; try omega) _ | with_reducible refine Gr.alloc ?_ _ | with_reducible refine Gr.drew ?_ | with_reducible refine Gr.drewN ?_ _ | with_reducible refine Gr.trans ?_ (by assumption))))) (by (repeat (first | with_reducible exact Gr.refl _ | with_reducible assumption | with_reducible refine Gr.setCell ?_ (by simp; try omega) _ | with_reducible refine Gr.alloc ?_ _ | with_reducible refine Gr.drew ?_ | with_reducible refine Gr.drewN ?_ _ | with_reducible refine Gr.trans ?_ (by assumption)))) _ f _ (by rfl) (hfs _) (by omega) ?_; intro va7 vc7 w7 hown7 hg7)
      | (refine step_add (w0 := w2) (by rfl) _ _ _ _ (by rfl) 5 _ 1 bytesT u8i rfl (by omega) _ (n4 + f) _ (by rfl) (ownsRow_gr hown7 (by (repeat (first | with_reducible exact Gr.refl _ | with_reducible assumption | with_reducible refine Gr.setCell ?_ (by simp; try omega) _ | with_reducible refine Gr.alloc ?_ _ | with_reducible refine Gr.drew ?_ | with_reducible refine Gr.drewN ?_ _ | with_reducible refine Gr.trans ?_ (by assumption))))) (by (repeat (first | with_reducible exact Gr.refl _ | with_reducible assumption | with_reducible refine Gr.setCell ?_ (by simp; try omega) _ | with_reducible refine Gr.alloc ?_ _ | with_reducible refine Gr.drew ?_ | with_reducible refine Gr.drewN ?_ _ | with_reducible refine Gr.trans ?_ (by assumption)))) _ k _ (by rfl) (hss _) (by omega) ?_; intro va8 vc8 w8 hown8 hg8))
  obtain ⟨x0, x1, x2, x3, x4, x5, xf⟩ := cells6 ((hg2.trans hg8).blk hb0)
  go_wp2_with (first
    | (at_builtin; refine wpList_add (w0 := w2) rfl _ _ _ _ rfl 5 _ 1 bytesT u8i rfl (by omega) _ (n4 + f + k) _ rfl (ownsRow_gr hown8 (by (repeat (first | with_reducible exact Gr.refl _ | with_reducible assumption | with_reducible refine Gr.setCell ?_ (by simp; try omega) _ | with_reducible refine Gr.alloc ?_ _ | with_reducible refine Gr.drew ?_ | with_reducible refine Gr.drewN ?_ _ | with_reducible refine Gr.trans ?_ (by assumption))))) (by (repeat (first | with_reducible exact Gr.refl _ | with_reducible assumption | with_reducible refine Gr.setCell ?_ (by simp; try omega) _ | with_reducible refine Gr.alloc ?_ _ | with_reducible refine Gr.drew ?_ | with_reducible refine Gr.drewN ?_ _ | with_reducible refine Gr.trans ?_ (by assumption)))) _ nd _ rfl (src_has (hrd0.gr (hw2.trans hg8))) (by omega) ?_; intro va10 vc10 w10 hown10 hg10; have hr10 : BRow w2 w10 _ (b4 ++ fmtR [] ++ [] ++ d) := BRow.of hown10 (by simp [bcells]))
    | (go_at_call 49; refine (pair_walk (w0 := w2) eight hr10 hg10 (by have := hr10.len; omega) (by decide)).mono ?_; rintro e w11 ⟨v11, rfl, hr11, hg11⟩; obtain ⟨va11, vc11, rfl⟩ := hr11.form; obtain ⟨b11, hB11⟩ : ∃ b, b = (b4 ++ fmtR [] ++ [] ++ d) ++ pairR 92 eight := ⟨_, rfl⟩; rw [← hB11] at hr11 ⊢; have HB11 := Lib.hid hB11; clear hB11))
  go_ret2
  have hfin : bytesR ⟨8, 0, 0, [], [], d⟩ eight = (b4 ++ fmtR [] ++ [] ++ d) ++ pairR 92 eight := by
    rw [HB4.out]
    skip
    simp [bytesR, begins_eq, fmtR, fmtGo]
  rw [hfin, ← HB11.out]
  exact ⟨_, rfl, ⟨w2, hw2, hr11⟩, hw2.trans hg11⟩

set_option maxRecDepth 100000 in
set_option maxHeartbeats 2000000 in
theorem bytes_str9 {w : World} {c m : Int} {ps l d : List Int} {a1 a2 : Option Addr} {c1 c2 : Nat} (eight : Bool) (hdd : DatOk d) (hrd0 : HasRow w 5 (.slice a2 d.length c2) d.length (bcells d))
    (hr : HasRow w 3 (.slice a1 0 c1) 0 (icells [])) (hT : tabT w)
    (hck : ∀ w', Gr w w' → Calls Tryd.prog 48 #[.agg #[.int .i64 9, .int .u8 0, .int .u8 0, .slice a1 0 c1, .string (strOf []), .slice a2 d.length c2]] w' fun e w2 => e = .returned (.int .i64 0) ∧ Gr w' w2) :
    Calls Tryd.prog 39 #[.agg #[.int .i64 9, .int .u8 0, .int .u8 0, .slice a1 0 c1, .string (strOf []), .slice a2 d.length c2], .bool eight] w (TBytes w (bytesR ⟨9, 0, 0, [], [], d⟩ eight)) := by
  have hb0 := heap_alloc_new w (.cells #[.int .i64 9, .int .u8 0, .int .u8 0, .slice a1 0 c1, .string (strOf []), .slice a2 d.length c2] 34)
  have hw0 := (Gr.refl w).alloc (.cells #[.int .i64 9, .int .u8 0, .int .u8 0, .slice a1 0 c1, .string (strOf []), .slice a2 d.length c2] 34)
  obtain ⟨hrd, hcap⟩ := hr.rdi
  clear hr
  obtain ⟨nd, hnd⟩ : ∃ nd, nd = d.length := ⟨_, rfl⟩
  have hd4 := hdd.1
  rw [← hnd] at hck hb0 hw0 hrd0 hd4 ⊢
  clear hnd hdd
  obtain ⟨k, hk⟩ : ∃ k, ([] : List Int).length = k := ⟨_, rfl⟩
  have hk3 : k ≤ 3 := by rw [← hk]; decide
  have hss := fun w => src_str (w := w) hk fun c hc => by simp at hc
  obtain ⟨f, hf⟩ : ∃ f, (fmtR []).length = f := ⟨_, rfl⟩
  have hf3 := fmtR_len []
  rw [hf] at hf3
  have hfs := fun w => src_str (w := w) hf fun c hc => by have := fmtR_in [] c hc; omega
  obtain ⟨fs, hfd⟩ : ∃ fs, fs = strOf (fmtR []) := ⟨_, rfl⟩
  have hfm := fun w' (hg : Gr w w') => fmt_walk (hrd.gr hg) hcap (hT.gr hg)
  rw [← hfd] at hfs hfm
  obtain ⟨s, hsd⟩ : ∃ s, s = strOf [] := ⟨_, rfl⟩
  rw [← hsd] at hck hb0 hw0 hss ⊢
  clear hsd hfd hf hk hrd hT
  go_enter Tryd.func39, Tryd.ntmps39
  go_wp2_with (first
    | (go_at_call 48; refine (hck _ hw0).mono ?_; rintro e w2 ⟨rfl, hg2⟩; have hw2 := hw0.trans hg2; obtain ⟨t0, t1, t2, t3, t4, t5, tf⟩ := cells6 (hg2.blk hb0))
    | (go_at_call 50; refine (opens_any _ _).mono ?_; rintro e w3 ⟨rfl, rfl⟩)
    | (go_at_call 49; refine (pair_walk (w0 := w2) (l := []) eight (BRow.nil _ _) (Gr.refl _) (by simp) (by decide)).mono ?_; rintro e w4 ⟨v4, rfl, hr4, hg4⟩; obtain ⟨va4, vc4, rfl⟩ := hr4.form; have hw4 := hw2.trans hg4; obtain ⟨y0, y1, y2, y3, y4, y5, yf⟩ := cells6 ((hg2.trans hg4).blk hb0); obtain ⟨b4, hB4⟩ : ∃ b, b = [] ++ pairR (beginsR 9) eight := ⟨_, rfl⟩; unfold BRow at hr4; rw [← hB4] at hr4 ⊢; have hl4 : b4.length ≤ 2 := (by rw [hB4]; exact pairR_len _ _); have HB4 := Lib.hid hB4; clear hB4; obtain ⟨n4, hn4⟩ : ∃ n4, n4 = b4.length := ⟨_, rfl⟩; rw [← hn4] at hr4 hl4 ⊢; clear hn4))
  clear t0 t1 t2 t3 t4 t5 tf y0 y1 y2 y3 y4 y5 yf
  have hS := fun (w9 : World) (hg : Gr w2 w9) => cells6 ((hg2.trans hg).blk hb0)
  go_region_held3 (fun w9 => Gr w2 w9 ∧ w9.cell? ⟨w.heap.size, 3, none⟩ = some (.slice a1 0 c1) ∧ w9.cell? ⟨w.heap.size, 4, none⟩ = some (.string s))
    ((refine (fun hg => ⟨hg, (hS _ hg).2.2.2.1, (hS _ hg).2.2.2.2.1⟩) ?_; (repeat (first | with_reducible exact Gr.refl _ | with_reducible assumption | with_reducible refine Gr.setCell ?_ (by simp; try omega) _ | with_reducible refine Gr.alloc ?_ _ | with_reducible refine Gr.drew ?_ | with_reducible refine Gr.drewN ?_ _ | with_reducible refine Gr.trans ?_ (by assumption)))))
    (first
      | (go_at_call 51; refine (hfm _ (by (repeat (first | with_reducible exact Gr.refl _ | with_reducible assumption | with_reducible refine Gr.setCell ?_ (by simp; try omega) _ | with_reducible refine Gr.alloc ?_ _ | with_reducible refine Gr.drew ?_ | with_reducible refine Gr.drewN ?_ _ | with_reducible refine Gr.trans ?_ (by assumption))))).mono ?_; rintro e w6 ⟨rfl, hg6⟩)
      | (refine step_add (w0 := w2) (by rfl) _ _ _ _ (by rfl) 5 _ 1 bytesT u8i rfl (by omega) _ (n4) _ (by rfl) (ownsRow_gr hr4 (by (repeat (first | with_reducible exact Gr.refl _ | with_reducible assumption | with_reducible refine Gr.setCell ?_ (by simp; try omega) _ | with_reducible refine Gr.alloc ?_ _ | with_reducible refine Gr.drew ?_ | with_reducible refine Gr.drewN ?_ _ | with_reducible refine Gr.trans ?_ (by assumption))))) (by (repeat (first | with_reducible exact Gr.refl _ | with_reducible assumption | with_reducible refine Gr.setCell ?_ (by simp; try omega) _ | with_reducible refine Gr.alloc ?_ _ | with_reducible refine Gr.drew ?_ | with_reducible refine Gr.drewN ?_ _ | with_reducible refine Gr.trans ?_ (by assumption)))) _ f _ (by rfl) (hfs _) (by omega) ?_; intro va7 vc7 w7 hown7 hg7)
      | (refine step_add (w0 := w2) (by rfl) _ _ _ _ (by rfl) 5 _ 1 bytesT u8i rfl (by omega) _ (n4 + f) _ (by rfl) (ownsRow_gr hown7 (by (repeat (first | with_reducible exact Gr.refl _ | with_reducible assumption | with_reducible refine Gr.setCell ?_ (by simp; try omega) _ | with_reducible refine Gr.alloc ?_ _ | with_reducible refine Gr.drew ?_ | with_reducible refine Gr.drewN ?_ _ | with_reducible refine Gr.trans ?_ (by assumption))))) (by (repeat (first | with_reducible exact Gr.refl _ | with_reducible assumption | with_reducible refine Gr.setCell ?_ (by simp; try omega) _ | with_reducible refine Gr.alloc ?_ _ | with_reducible refine Gr.drew ?_ | with_reducible refine Gr.drewN ?_ _ | with_reducible refine Gr.trans ?_ (by assumption)))) _ k _ (by rfl) (hss _) (by omega) ?_; intro va8 vc8 w8 hown8 hg8))
  obtain ⟨x0, x1, x2, x3, x4, x5, xf⟩ := cells6 ((hg2.trans hg8).blk hb0)
  go_wp2_with (first
    | (at_builtin; refine wpList_add (w0 := w2) rfl _ _ _ _ rfl 5 _ 1 bytesT u8i rfl (by omega) _ (n4 + f + k) _ rfl (ownsRow_gr hown8 (by (repeat (first | with_reducible exact Gr.refl _ | with_reducible assumption | with_reducible refine Gr.setCell ?_ (by simp; try omega) _ | with_reducible refine Gr.alloc ?_ _ | with_reducible refine Gr.drew ?_ | with_reducible refine Gr.drewN ?_ _ | with_reducible refine Gr.trans ?_ (by assumption))))) (by (repeat (first | with_reducible exact Gr.refl _ | with_reducible assumption | with_reducible refine Gr.setCell ?_ (by simp; try omega) _ | with_reducible refine Gr.alloc ?_ _ | with_reducible refine Gr.drew ?_ | with_reducible refine Gr.drewN ?_ _ | with_reducible refine Gr.trans ?_ (by assumption)))) _ nd _ rfl (src_has (hrd0.gr (hw2.trans hg8))) (by omega) ?_; intro va10 vc10 w10 hown10 hg10; have hr10 : BRow w2 w10 _ (b4 ++ fmtR [] ++ [] ++ d) := BRow.of hown10 (by simp [bcells]))
    | (go_at_call 49; refine (pair_walk (w0 := w2) eight hr10 hg10 (by have := hr10.len; omega) (by decide)).mono ?_; rintro e w11 ⟨v11, rfl, hr11, hg11⟩; obtain ⟨va11, vc11, rfl⟩ := hr11.form; obtain ⟨b11, hB11⟩ : ∃ b, b = (b4 ++ fmtR [] ++ [] ++ d) ++ pairR 92 eight := ⟨_, rfl⟩; rw [← hB11] at hr11 ⊢; have HB11 := Lib.hid hB11; clear hB11))
  go_ret2
  have hfin : bytesR ⟨9, 0, 0, [], [], d⟩ eight = (b4 ++ fmtR [] ++ [] ++ d) ++ pairR 92 eight := by
    rw [HB4.out]
    skip
    simp [bytesR, begins_eq, fmtR, fmtGo]
  rw [hfin, ← HB11.out]
  exact ⟨_, rfl, ⟨w2, hw2, hr11⟩, hw2.trans hg11⟩

set_option maxRecDepth 100000 in
set_option maxHeartbeats 2000000 in
theorem bytes_esc {w : World} {c m : Int} {ps l d : List Int} {a1 a2 : Option Addr} {c1 c2 : Nat} (eight : Bool) (hc : 48 ≤ c ∧ c ≤ 126) (hl : IntsOk l) (hne : l ≠ [])
    (hr : HasRow w 3 (.slice a1 0 c1) 0 (icells [])) (hT : tabT w)
    (hck : ∀ w', Gr w w' → Calls Tryd.prog 48 #[.agg #[.int .i64 3, .int .u8 c, .int .u8 0, .slice a1 0 c1, .string (strOf l), .slice a2 0 c2]] w' fun e w2 => e = .returned (.int .i64 0) ∧ Gr w' w2) :
    Calls Tryd.prog 39 #[.agg #[.int .i64 3, .int .u8 c, .int .u8 0, .slice a1 0 c1, .string (strOf l), .slice a2 0 c2], .bool eight] w (TBytes w (bytesR ⟨3, c, 0, [], l, []⟩ eight)) := by
  have hb0 := heap_alloc_new w (.cells #[.int .i64 3, .int .u8 c, .int .u8 0, .slice a1 0 c1, .string (strOf l), .slice a2 0 c2] 34)
  have hw0 := (Gr.refl w).alloc (.cells #[.int .i64 3, .int .u8 c, .int .u8 0, .slice a1 0 c1, .string (strOf l), .slice a2 0 c2] 34)
  obtain ⟨hrd, hcap⟩ := hr.rdi
  clear hr
  obtain ⟨k, hk⟩ : ∃ k, l.length = k := ⟨_, rfl⟩
  have hk3 := hl.1
  rw [hk] at hk3
  have hss := fun w => src_str (w := w) hk fun c hc => by have := hl.2 c hc; omega
  obtain ⟨f, hf⟩ : ∃ f, (fmtR []).length = f := ⟨_, rfl⟩
  have hf3 := fmtR_len []
  rw [hf] at hf3
  have hfs := fun w => src_str (w := w) hf fun c hc => by have := fmtR_in [] c hc; omega
  obtain ⟨fs, hfd⟩ : ∃ fs, fs = strOf (fmtR []) := ⟨_, rfl⟩
  have hfm := fun w' (hg : Gr w w') => fmt_walk (hrd.gr hg) hcap (hT.gr hg)
  rw [← hfd] at hfs hfm
  have hne0 : strOf l ≠ ⟨#[]⟩ := strOf_ne hne
  have hq1 : ((strOf l).toList.isEmpty) = false := by
    cases hx : (strOf l).toList with
    | nil => exact absurd ((bytes_inj _ _).1 (by rw [hx, ByteArray.toList_eq])) hne0
    | cons a b => rfl
  have hq2 : ((strOf l).toList == (⟨#[]⟩ : ByteArray).toList) = false := by rw [show (⟨#[]⟩ : ByteArray).toList = [] from by rw [ByteArray.toList_eq]]; cases hx : (strOf l).toList with | nil => rw [hx] at hq1; cases hq1 | cons a b => rfl
  have HNE := Lib.hid hne
  have hq3 : ¬ (strOf l).toList = [] := by intro e; rw [e] at hq1; cases hq1
  obtain ⟨s, hsd⟩ : ∃ s, s = strOf l := ⟨_, rfl⟩
  rw [← hsd] at hck hb0 hw0 hss hq1 hq2 hq3 ⊢
  obtain ⟨cc1, cc2⟩ := hc
  have hcz : (c != 0) = true := by simp; omega
  clear hl hne hne0 hsd hfd hf hk hrd hT
  go_enter Tryd.func39, Tryd.ntmps39
  go_wp2_with (first
    | (go_at_call 48; refine (hck _ hw0).mono ?_; rintro e w2 ⟨rfl, hg2⟩; have hw2 := hw0.trans hg2; obtain ⟨t0, t1, t2, t3, t4, t5, tf⟩ := cells6 (hg2.blk hb0))
    | (at_builtin; refine wpList_add (w0 := w2) rfl _ _ _ _ rfl 5 _ 1 bytesT u8i rfl (by omega) _ 0 [] rfl (World.ownsRow_nil _ _ _ _) ((Gr.refl w2).alloc _) _ 1 [.int .u8 27] rfl (src_block bytesT _ (heap_alloc_new _ _) rfl (by simp [Value.oneCell'])) (by omega) ?_; intro va4 vc4 w4 hr4 hg4; have hw4 := hw2.trans hg4; obtain ⟨y0, y1, y2, y3, y4, y5, yf⟩ := cells6 ((hg2.trans hg4).blk hb0); have hl4 : 0 + 1 ≤ 2 := by omega))
  clear t0 t1 t2 t3 t4 t5 tf y0 y1 y2 y3 y4 y5 yf
  have hS := fun (w9 : World) (hg : Gr w2 w9) => cells6 ((hg2.trans hg).blk hb0)
  go_region_held3 (fun w9 => Gr w2 w9 ∧ w9.cell? ⟨w.heap.size, 3, none⟩ = some (.slice a1 0 c1) ∧ w9.cell? ⟨w.heap.size, 4, none⟩ = some (.string s))
    ((refine (fun hg => ⟨hg, (hS _ hg).2.2.2.1, (hS _ hg).2.2.2.2.1⟩) ?_; (repeat (first | with_reducible exact Gr.refl _ | with_reducible assumption | with_reducible refine Gr.setCell ?_ (by simp; try omega) _ | with_reducible refine Gr.alloc ?_ _ | with_reducible refine Gr.drew ?_ | with_reducible refine Gr.drewN ?_ _ | with_reducible refine Gr.trans ?_ (by assumption)))))
    (first
      | (go_at_call 51; refine (hfm _ (by (repeat (first | with_reducible exact Gr.refl _ | with_reducible assumption | with_reducible refine Gr.setCell ?_ (by simp; try omega) _ | with_reducible refine Gr.alloc ?_ _ | with_reducible refine Gr.drew ?_ | with_reducible refine Gr.drewN ?_ _ | with_reducible refine Gr.trans ?_ (by assumption))))).mono ?_; rintro e w6 ⟨rfl, hg6⟩)
      | (refine step_add (w0 := w2) (by rfl) _ _ _ _ (by rfl) 5 _ 1 bytesT u8i rfl (by omega) _ ((0 + 1)) _ (by rfl) (ownsRow_gr hr4 (by (repeat (first | with_reducible exact Gr.refl _ | with_reducible assumption | with_reducible refine Gr.setCell ?_ (by simp; try omega) _ | with_reducible refine Gr.alloc ?_ _ | with_reducible refine Gr.drew ?_ | with_reducible refine Gr.drewN ?_ _ | with_reducible refine Gr.trans ?_ (by assumption))))) (by (repeat (first | with_reducible exact Gr.refl _ | with_reducible assumption | with_reducible refine Gr.setCell ?_ (by simp; try omega) _ | with_reducible refine Gr.alloc ?_ _ | with_reducible refine Gr.drew ?_ | with_reducible refine Gr.drewN ?_ _ | with_reducible refine Gr.trans ?_ (by assumption)))) _ f _ (by rfl) (hfs _) (by omega) ?_; intro va7 vc7 w7 hown7 hg7)
      | (refine step_add (w0 := w2) (by rfl) _ _ _ _ (by rfl) 5 _ 1 bytesT u8i rfl (by omega) _ ((0 + 1) + f) _ (by rfl) (ownsRow_gr hown7 (by (repeat (first | with_reducible exact Gr.refl _ | with_reducible assumption | with_reducible refine Gr.setCell ?_ (by simp; try omega) _ | with_reducible refine Gr.alloc ?_ _ | with_reducible refine Gr.drew ?_ | with_reducible refine Gr.drewN ?_ _ | with_reducible refine Gr.trans ?_ (by assumption))))) (by (repeat (first | with_reducible exact Gr.refl _ | with_reducible assumption | with_reducible refine Gr.setCell ?_ (by simp; try omega) _ | with_reducible refine Gr.alloc ?_ _ | with_reducible refine Gr.drew ?_ | with_reducible refine Gr.drewN ?_ _ | with_reducible refine Gr.trans ?_ (by assumption)))) _ k _ (by rfl) (hss _) (by omega) ?_; intro va8 vc8 w8 hown8 hg8))
  obtain ⟨x0, x1, x2, x3, x4, x5, xf⟩ := cells6 ((hg2.trans hg8).blk hb0)
  go_wp2_with (first
    | (at_builtin; refine wpList_add (w0 := w2) rfl _ _ _ _ rfl 5 _ 1 bytesT u8i rfl (by omega) _ ((0 + 1) + f + k) _ rfl (ownsRow_gr hown8 (by (repeat (first | with_reducible exact Gr.refl _ | with_reducible assumption | with_reducible refine Gr.setCell ?_ (by simp; try omega) _ | with_reducible refine Gr.alloc ?_ _ | with_reducible refine Gr.drew ?_ | with_reducible refine Gr.drewN ?_ _ | with_reducible refine Gr.trans ?_ (by assumption))))) (by (repeat (first | with_reducible exact Gr.refl _ | with_reducible assumption | with_reducible refine Gr.setCell ?_ (by simp; try omega) _ | with_reducible refine Gr.alloc ?_ _ | with_reducible refine Gr.drew ?_ | with_reducible refine Gr.drewN ?_ _ | with_reducible refine Gr.trans ?_ (by assumption)))) _ 1 [.int .u8 c] rfl (src_block bytesT _ (heap_alloc_new _ _) rfl (by simp [Value.oneCell'])) (by omega) ?_; intro va9 vc9 w9 hown9 hg9; have hw9 := hw2.trans hg9; obtain ⟨j0, j1, j2, j3, j4, j5, jf⟩ := cells6 ((hg2.trans hg9).blk hb0)))
  go_ret2
  refine ⟨_, rfl, ⟨w2, hw2, BRow.of hown9 ?_⟩, hw2.trans hg9⟩
  simp [bytesR, bcells, begins_eq, HNE.out, fmtR, fmtGo]
end Go.Proofs.YtnnhaenmoifplaaDoor
