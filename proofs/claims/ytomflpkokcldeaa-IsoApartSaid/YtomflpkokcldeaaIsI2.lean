/-
  Left and right apart: a set that is designated at G2.
-/
import Derived.Test.YtomflpkokcldeaaIsI
namespace Go.Proofs.Ytomflpkokcldeaa
set_option linter.unusedSimpArgs false
set_option linter.unusedVariables false
open Go.RowKit

set_option maxRecDepth 100000 in
set_option maxHeartbeats 2000000 in
theorem apart_2 (g0 g1 g2 g3 gl gr si b : Int) (w : World) :
    Calls Try.prog 4 #[.agg #[.int .i64 g0, .int .i64 g1, .int .i64 g2, .int .i64 g3, .int .i64 gl, .int .i64 gr, .int .i64 si], .int .i64 2, .int .i64 b] w fun e w' => e = .returned (.bool true) ∧ Gr w w' := by
  have hf : findP false ⟨#[48]⟩ = 2 := by decide +kernel
  have hd : desOk false ⟨#[48]⟩ 2 = true := by decide +kernel
  have hdes := fun w => des_any g0 g1 g2 g3 gl gr si 2 false ⟨#[48]⟩ w
  simp only [hd, hf, Bool.true_and, Bool.false_and, decide_true, Int.reduceEq, decide_false, selI_true, selI_false] at hdes
  clear hf hd
  have hst := fun a0 a1 a2 a3 a4 a5 a6 b0 b1 b2 b3 b4 b5 b6 w => eq_st 27 (.inl rfl) a0 a1 a2 a3 a4 a5 a6 b0 b1 b2 b3 b4 b5 b6 w
  have hsr := stEq_refl
  have har := fun a0 a1 a2 a3 b0 b1 b2 b3 w => eq_arr 9998 a0 a1 a2 a3 b0 b1 b2 b3 w
  go_enter Try.func4, Try.ntmps4
  go_wp2_with fail
  refine (awake10 _).mono ?_
  rintro e w1 ⟨rfl, hb1⟩
  obtain ⟨hc1, hf1, hz1⟩ := hb1.facts
  try simp at hz1
  try have : w.heap.size < w1.heap.size := by omega
  go_wp2_with fail
  refine (own10_any _ _ _ _ _ _ _ _).mono ?_
  rintro e w2 ⟨rfl, hb2⟩
  obtain ⟨hc2, hf2, hz2⟩ := hb2.facts
  try simp at hz2
  try have : w.heap.size < w2.heap.size := by omega
  try have : w1.heap.size < w2.heap.size := by omega
  go_wp2_with fail
  obtain ⟨w3, hw3⟩ : ∃ w3, w3 = w2.alloc (.cells #[.int .i64 g0, .int .i64 g1, .int .i64 g2, .int .i64 g3, .int .i64 gl, .int .i64 gr, .int .i64 si] 27) := ⟨_, rfl⟩
  rw [← hw3]
  have hx3 : w3.heap[w2.heap.size]? = some (.cells #[.int .i64 g0, .int .i64 g1, .int .i64 g2, .int .i64 g3, .int .i64 gl, .int .i64 gr, .int .i64 si] 27 (0, 0)) := by rw [hw3]; exact heap_alloc_new _ _
  have hg3 : Gr w w3 := by rw [hw3]; (repeat (first | with_reducible (refine Gr.setCell ?_ ?hp _; case hp => (simp; try omega)) | with_reducible refine Gr.alloc ?_ _ | with_reducible refine Gr.drew ?_ | with_reducible refine Gr.drewN ?_ _ | with_reducible assumption | with_reducible exact Gr.refl _ | with_reducible refine Gr.trans ?_ (by assumption)))
  clear hw3
  refine wp_region_facts2 (pairF w3 g0 g1 g2 g3 gl gr si 2 b) pairD (Gr w3) (by kernel_rfl) (by kernel_rfl) (by kernel_rfl) ?_ ((Gr.refl _).drew) ?_ ?_
  · intro j o ho ys zs w' hj he hF
    match j, ho, hj, hF with
    | 0, ho, hj, hF | 1, ho, hj, hF | 2, ho, hj, hF | 3, ho, hj, hF | 4, ho, hj, hF | 5, ho, hj, hF | 6, ho, hj, hF | 7, ho, hj, hF => simp only [pairF] at hF ⊢; rw [← hj]; exact hF
    | 8, ho, hj, hF => 
      simp at ho; subst ho
      have := he ⟨6, .data⟩ (by simp) rfl
      simp only [pairF] at hF ⊢; rw [← this]; exact hF
    | 9, ho, hj, hF => 
      simp at ho; subst ho
      have := he ⟨7, .data⟩ (by simp) rfl
      simp only [pairF] at hF ⊢; rw [← this]; exact hF
    | _ + 10, ho, _, _ => exact trivial
  · refine Steps2.cons1 1 rfl rfl ?_ (Steps2.cons1 2 rfl rfl ?_ (Steps2.cons1 3 rfl rfl ?_ (Steps2.cons1 4 rfl rfl ?_ (Steps2.cons1 5 rfl rfl ?_ (Steps2.cons1 6 rfl rfl ?_ (Steps2.cons1 7 rfl rfl ?_ (Steps2.cons1 8 rfl rfl ?_ (Steps2.cons1 9 rfl rfl ?_ (Steps2.cons1 10 rfl rfl ?_ (Steps2.nil))))))))))
    · (intro L ys w' hB hD hP hn; simp only [LAll, Region.binds, forall_const, and_true, true_and] at hP)
      have q := cells7 (hB.blk hx3)
      intro K hK
      simp only [fillA]
      go_simp
      have h2 := hK (.agg #[.int .i64 g0, .int .i64 g1, .int .i64 g2, .int .i64 g3, .int .i64 gl, .int .i64 gr, .int .i64 si]) w' hB (setY_at ys 0 _) (fun j _ h => h) (fun j _ => pairD.no (by decide) (by decide) _ ys j)
      simp [fillA, Act.put] at h2
      exact h2
    · (intro L ys w' hB hD hP hn; simp only [LAll, Region.binds, forall_const, and_true, true_and] at hP)
      intro K hK
      simp only [fillA]
      go_simp
      have h2 := hK (.int .i64 2) w' hB (setY_at ys 1 _) (fun j _ h => h) (fun j _ => pairD.no (by decide) (by decide) _ ys j)
      simp [fillA, Act.put] at h2
      exact h2
    · (intro L ys w' hB hD hP hn; simp only [LAll, Region.binds, forall_const, and_true, true_and] at hP)
      have f0 : ys 0 = _ := hD.fact 0 (by first | exact hP | exact hP.1 | exact hP.2.1 | exact hP.2.2.1 | exact hP.2.2.2.1 | exact hP.2 | exact hP.2.2)
      have f1 : ys 1 = _ := hD.fact 1 (by first | exact hP | exact hP.1 | exact hP.2.1 | exact hP.2.2.1 | exact hP.2.2.2.1 | exact hP.2 | exact hP.2.2)
      intro K hK
      simp only [fillA]
      go_simp
      refine (left_any _ _ _ _ _ _ _ _ _).mono ?_
      rintro e w4 ⟨rfl, hg⟩
      have h2 := hK (.agg #[.int .i64 g0, .int .i64 g1, .int .i64 g2, .int .i64 g3, .int .i64 (selI (between 0 3 2) 2 gl), .int .i64 gr, .int .i64 si]) w4 (hB.trans hg) (setY_at ys 2 _) (fun j _ h => h.gr hg) (fun j _ => pairD.no (by decide) (by decide) _ ys j)
      simp [fillA, Act.put, f0, f1] at h2
      exact h2
    · (intro L ys w' hB hD hP hn; simp only [LAll, Region.binds, forall_const, and_true, true_and] at hP)
      have q := cells7 (hB.blk hx3)
      intro K hK
      simp only [fillA]
      go_simp
      have h2 := hK (.agg #[.int .i64 g0, .int .i64 g1, .int .i64 g2, .int .i64 g3, .int .i64 gl, .int .i64 gr, .int .i64 si]) w' hB (setY_at ys 3 _) (fun j _ h => h) (fun j _ => pairD.no (by decide) (by decide) _ ys j)
      simp [fillA, Act.put] at h2
      exact h2
    · (intro L ys w' hB hD hP hn; simp only [LAll, Region.binds, forall_const, and_true, true_and] at hP)
      intro K hK
      simp only [fillA]
      go_simp
      have h2 := hK (.int .i64 b) w' hB (setY_at ys 4 _) (fun j _ h => h) (fun j _ => pairD.no (by decide) (by decide) _ ys j)
      simp [fillA, Act.put] at h2
      exact h2
    · (intro L ys w' hB hD hP hn; simp only [LAll, Region.binds, forall_const, and_true, true_and] at hP)
      have f0 : ys 3 = _ := hD.fact 3 (by first | exact hP | exact hP.1 | exact hP.2.1 | exact hP.2.2.1 | exact hP.2.2.2.1 | exact hP.2 | exact hP.2.2)
      have f1 : ys 4 = _ := hD.fact 4 (by first | exact hP | exact hP.1 | exact hP.2.1 | exact hP.2.2.1 | exact hP.2.2.2.1 | exact hP.2 | exact hP.2.2)
      intro K hK
      simp only [fillA]
      go_simp
      refine (right_any _ _ _ _ _ _ _ _ _).mono ?_
      rintro e w4 ⟨rfl, hg⟩
      have h2 := hK (.agg #[.int .i64 g0, .int .i64 g1, .int .i64 g2, .int .i64 g3, .int .i64 gl, .int .i64 (selI (between 1 3 b) b gr), .int .i64 si]) w4 (hB.trans hg) (setY_at ys 5 _) (fun j _ h => h.gr hg) (fun j _ => pairD.no (by decide) (by decide) _ ys j)
      simp [fillA, Act.put, f0, f1] at h2
      exact h2
    · (intro L ys w' hB hD hP hn; simp only [LAll, Region.binds, forall_const, and_true, true_and] at hP)
      have hno : ∀ v : Value, ys 7 = v → L 7 → v ≠ .pointer (some ⟨w'.heap.size, 0, none⟩) := by
        rintro v rfl hl e
        obtain ⟨p, cs, h1, _, _, h4⟩ := hD.fact 7 hl
        rw [e] at h1
        simp at h1
        subst h1
        simp at h4
      intro K hK
      simp only [fillA]
      go_simp
      have h2 := hK (.pointer (some ⟨w'.heap.size, 0, none⟩)) (w'.alloc (.cells #[.int .i64 0, .int .i64 0, .int .i64 0, .int .i64 0, .int .i64 0, .int .i64 0, .int .i64 0] 27)) (hB.alloc _) ⟨_, _, setY_at ys 6 _, hB.size, rfl, heap_alloc_new _ _⟩ (fun j _ h => h.gr ((Gr.refl _).alloc _)) (fun j hj => ⟨fun _ _ h7 e => by subst h7; exact hno _ rfl hj e.symm, fun h h6 h7 => by omega⟩)
      simp [fillA, Act.put] at h2
      exact h2
    · (intro L ys w' hB hD hP hn; simp only [LAll, Region.binds, forall_const, and_true, true_and] at hP)
      have hno : ∀ v : Value, ys 6 = v → L 6 → v ≠ .pointer (some ⟨w'.heap.size, 0, none⟩) := by
        rintro v rfl hl e
        obtain ⟨p, cs, h1, _, _, h4⟩ := hD.fact 6 hl
        rw [e] at h1
        simp at h1
        subst h1
        simp at h4
      intro K hK
      simp only [fillA]
      go_simp
      have h2 := hK (.pointer (some ⟨w'.heap.size, 0, none⟩)) (w'.alloc (.cells #[.int .i64 0, .int .i64 0, .int .i64 0, .int .i64 0, .int .i64 0, .int .i64 0, .int .i64 0] 27)) (hB.alloc _) ⟨_, _, setY_at ys 7 _, hB.size, rfl, heap_alloc_new _ _⟩ (fun j _ h => h.gr ((Gr.refl _).alloc _)) (fun j hj => ⟨fun h h6 => by omega, fun _ h6 _ e => by subst h6; exact hno _ rfl hj e⟩)
      simp [fillA, Act.put] at h2
      exact h2
    · (intro L ys w' hB hD hP hn; simp only [LAll, Region.binds, forall_const, and_true, true_and] at hP)
      have f0 : ys 2 = _ := hD.fact 2 (by first | exact hP | exact hP.1 | exact hP.2.1 | exact hP.2.2.1 | exact hP.2.2.2.1 | exact hP.2 | exact hP.2.2)
      have l6 : L 6 := (by first | exact hP | exact hP.1 | exact hP.2.1 | exact hP.2.2.1 | exact hP.2.2.2.1 | exact hP.2 | exact hP.2.2)
      obtain ⟨g, cs, hq, hge, hcs, hblk⟩ := hD.fact 6 (by first | exact hP | exact hP.1 | exact hP.2.1 | exact hP.2.2.1 | exact hP.2.2.2.1 | exact hP.2 | exact hP.2.2)
      have hs := setRow_heap w' g cs #[.int .i64 g0, .int .i64 g1, .int .i64 g2, .int .i64 g3, .int .i64 (selI (between 0 3 2) 2 gl), .int .i64 gr, .int .i64 si] 27 (0, 0) hblk
      have ho := fun k (hk : k ≠ g) => setRow_other w' g k #[.int .i64 g0, .int .i64 g1, .int .i64 g2, .int .i64 g3, .int .i64 (selI (between 0 3 2) 2 gl), .int .i64 gr, .int .i64 si] (by omega)
      have hfin := pairF.at8 (gl := gl) (gr := gr) (a := 2) (b := b) undef hq hge hs
      have hkeep := fun (j : Nat) (hl : L j) (h : pairF w3 g0 g1 g2 g3 gl gr si 2 b j ys w') => h.set rfl hs ho (fun h => absurd (h ▸ hl) hn) (fun h e => by
        subst h
        have hLo : L 7 := hD.back 9 _ hl rfl ⟨7, .data⟩ (by simp) rfl
        exact hD.two 6 7 l6 hLo (by decide) rfl rfl (hq.trans e.symm))
      intro K hK
      with_reducible refine wp_store_row 27 (.tmp 8) (.tmp 18) ?ho8 g #[.int .i64 g0, .int .i64 g1, .int .i64 g2, .int .i64 g3, .int .i64 (selI (between 0 3 2) 2 gl), .int .i64 gr, .int .i64 si] ?hx8 ?hy8 27 cs hblk ?hi8 ?hc8 ?h18 ?hh8
      case hc8 => exact hcs
      case ho8 => rfl
      case hx8 => simp [Act.eval, fillA, Act.put, hq]
      case hy8 => simp [Act.eval, fillA, Act.put, f0]
      case hi8 => kernel_rfl
      case h18 => simp [Value.oneCell']
      case hh8 => exact hK undef _ (setRow_gr hB hge) hfin hkeep (fun j _ => pairD.no (by decide) (by decide) _ ys j)
    · (intro L ys w' hB hD hP hn; simp only [LAll, Region.binds, forall_const, and_true, true_and] at hP)
      have f0 : ys 5 = _ := hD.fact 5 (by first | exact hP | exact hP.1 | exact hP.2.1 | exact hP.2.2.1 | exact hP.2.2.2.1 | exact hP.2 | exact hP.2.2)
      have l7 : L 7 := (by first | exact hP | exact hP.1 | exact hP.2.1 | exact hP.2.2.1 | exact hP.2.2.2.1 | exact hP.2 | exact hP.2.2)
      obtain ⟨g, cs, hq, hge, hcs, hblk⟩ := hD.fact 7 (by first | exact hP | exact hP.1 | exact hP.2.1 | exact hP.2.2.1 | exact hP.2.2.2.1 | exact hP.2 | exact hP.2.2)
      have hs := setRow_heap w' g cs #[.int .i64 g0, .int .i64 g1, .int .i64 g2, .int .i64 g3, .int .i64 gl, .int .i64 (selI (between 1 3 b) b gr), .int .i64 si] 27 (0, 0) hblk
      have ho := fun k (hk : k ≠ g) => setRow_other w' g k #[.int .i64 g0, .int .i64 g1, .int .i64 g2, .int .i64 g3, .int .i64 gl, .int .i64 (selI (between 1 3 b) b gr), .int .i64 si] (by omega)
      have hfin := pairF.at9 (gl := gl) (gr := gr) (a := 2) (b := b) undef hq hge hs
      have hkeep := fun (j : Nat) (hl : L j) (h : pairF w3 g0 g1 g2 g3 gl gr si 2 b j ys w') => h.set rfl hs ho (fun h e => by
        subst h
        have hLo : L 6 := hD.back 8 _ hl rfl ⟨6, .data⟩ (by simp) rfl
        exact hD.two 6 7 hLo l7 (by decide) rfl rfl (e.trans hq.symm)) (fun h => absurd (h ▸ hl) hn)
      intro K hK
      with_reducible refine wp_store_row 27 (.tmp 9) (.tmp 21) ?ho9 g #[.int .i64 g0, .int .i64 g1, .int .i64 g2, .int .i64 g3, .int .i64 gl, .int .i64 (selI (between 1 3 b) b gr), .int .i64 si] ?hx9 ?hy9 27 cs hblk ?hi9 ?hc9 ?h19 ?hh9
      case hc9 => exact hcs
      case ho9 => rfl
      case hx9 => simp [Act.eval, fillA, Act.put, hq]
      case hy9 => simp [Act.eval, fillA, Act.put, f0]
      case hi9 => kernel_rfl
      case h19 => simp [Value.oneCell']
      case hh9 => exact hK undef _ (setRow_gr hB hge) hfin hkeep (fun j _ => pairD.no (by decide) (by decide) _ ys j)
  · intro ys w' hB hF hD
    have f0 : ys 0 = _ := hF 0 (by decide)
    have f1 : ys 1 = _ := hF 1 (by decide)
    have f2 : ys 2 = _ := hF 2 (by decide)
    have f3 : ys 3 = _ := hF 3 (by decide)
    have f4 : ys 4 = _ := hF 4 (by decide)
    have f5 : ys 5 = _ := hF 5 (by decide)
    obtain ⟨l, f6, hlw, hlb⟩ := hF 8 (by decide)
    obtain ⟨r, f7, hrw, hrb⟩ := hF 9 (by decide)
    have hxb := hB.blk hx3
    clear hF hD hx3
    have hX := fun (w9 : World) (hg : Gr w' w9) => Seven.of hxb hg
    have hL := fun (w9 : World) (hg : Gr w' w9) => Seven.of hlb hg
    have hR := fun (w9 : World) (hg : Gr w' w9) => Seven.of hrb hg
    unfold Seven at hX hL hR
    simp only [fillA, f0, f1, f2, f3, f4, f5, f6, f7]
    clear f0 f1 f2 f3 f4 f5 f6 f7
    have hgw : Gr w w' := hg3.trans hB
    obtain ⟨x, hx⟩ : ∃ x, x = w2.heap.size := ⟨_, rfl⟩
    rw [← hx] at hX hxb ⊢
    clear hx hlw hrw hg3 hB hb1 hb2 hc1 hc2 hf1 hf2 hz1 hz2
    go_wp2_with fail
    go_region_held3 (fun w9 => Gr w' w9 ∧ (w9.cell? ⟨x, 0, none⟩ = some (.int .i64 g0) ∧ w9.cell? ⟨x, 1, none⟩ = some (.int .i64 g1) ∧ w9.cell? ⟨x, 2, none⟩ = some (.int .i64 g2) ∧ w9.cell? ⟨x, 3, none⟩ = some (.int .i64 g3) ∧ w9.cell? ⟨x, 4, none⟩ = some (.int .i64 gl) ∧ w9.cell? ⟨x, 5, none⟩ = some (.int .i64 gr) ∧ w9.cell? ⟨x, 6, none⟩ = some (.int .i64 si)) ∧ (w9.cell? ⟨l, 0, none⟩ = some (.int .i64 g0) ∧ w9.cell? ⟨l, 1, none⟩ = some (.int .i64 g1) ∧ w9.cell? ⟨l, 2, none⟩ = some (.int .i64 g2) ∧ w9.cell? ⟨l, 3, none⟩ = some (.int .i64 g3) ∧ w9.cell? ⟨l, 4, none⟩ = some (.int .i64 (selI (between 0 3 2) 2 gl)) ∧ w9.cell? ⟨l, 5, none⟩ = some (.int .i64 gr) ∧ w9.cell? ⟨l, 6, none⟩ = some (.int .i64 si)) ∧ (w9.cell? ⟨r, 0, none⟩ = some (.int .i64 g0) ∧ w9.cell? ⟨r, 1, none⟩ = some (.int .i64 g1) ∧ w9.cell? ⟨r, 2, none⟩ = some (.int .i64 g2) ∧ w9.cell? ⟨r, 3, none⟩ = some (.int .i64 g3) ∧ w9.cell? ⟨r, 4, none⟩ = some (.int .i64 gl) ∧ w9.cell? ⟨r, 5, none⟩ = some (.int .i64 (selI (between 1 3 b) b gr)) ∧ w9.cell? ⟨r, 6, none⟩ = some (.int .i64 si)))
      ((refine (fun hg => ⟨hg, hX _ hg, hL _ hg, hR _ hg⟩) ?_; (repeat (first | with_reducible exact Gr.refl _ | with_reducible assumption | with_reducible refine Gr.setCell ?_ (by simp; try omega) _ | with_reducible refine Gr.alloc ?_ _ | with_reducible refine Gr.drew ?_ | with_reducible refine Gr.drewN ?_ _ | with_reducible refine Gr.trans ?_ (by assumption)))))
      (first
        | (go_at_call 13; refine (left_any _ _ _ _ _ _ _ _ _).mono ?_; rintro e w4 ⟨rfl, hg4⟩)
        | (go_at_call 14; refine (right_any _ _ _ _ _ _ _ _ _).mono ?_; rintro e w5 ⟨rfl, hg5⟩))
    go_wp2_with (go_at_call 15; refine (hdes _).mono ?_; rintro e w6 ⟨rfl, hg6⟩)
    obtain ⟨w7, hw7⟩ : ∃ w7, w7 = w6.alloc (.cells #[.int .i64 g0, .int .i64 g1, .int .i64 2, .int .i64 g3, .int .i64 gl, .int .i64 gr, .int .i64 si] 27) := ⟨_, rfl⟩
    rw [← hw7]
    have hg7 : Gr w' w7 := by rw [hw7]; (repeat (first | with_reducible (refine Gr.setCell ?_ ?hp _; case hp => (simp; try omega)) | with_reducible refine Gr.alloc ?_ _ | with_reducible refine Gr.drew ?_ | with_reducible refine Gr.drewN ?_ _ | with_reducible assumption | with_reducible exact Gr.refl _ | with_reducible refine Gr.trans ?_ (by assumption)))
    have hyb : w7.heap[w6.heap.size]? = some (.cells #[.int .i64 g0, .int .i64 g1, .int .i64 2, .int .i64 g3, .int .i64 gl, .int .i64 gr, .int .i64 si] 27 (0, 0)) := by rw [hw7]; exact heap_alloc_new _ _
    clear hw7
    have hY := fun (w9 : World) (hg : Gr w7 w9) => Seven.of hyb hg
    have hX7 := fun (w9 : World) (hg : Gr w7 w9) => hX w9 (hg7.trans hg)
    unfold Seven at hY
    have hgw7 : Gr w w7 := hgw.trans hg7
    obtain ⟨y, hy⟩ : ∃ y, y = w6.heap.size := ⟨_, rfl⟩
    rw [← hy] at hY hyb ⊢
    clear hy hX hL hR
    have hf0 := field0
    go_wp2_with fail
    go_region_held3 (fun w9 => Gr w7 w9 ∧ (w9.cell? ⟨x, 0, none⟩ = some (.int .i64 g0) ∧ w9.cell? ⟨x, 1, none⟩ = some (.int .i64 g1) ∧ w9.cell? ⟨x, 2, none⟩ = some (.int .i64 g2) ∧ w9.cell? ⟨x, 3, none⟩ = some (.int .i64 g3) ∧ w9.cell? ⟨x, 4, none⟩ = some (.int .i64 gl) ∧ w9.cell? ⟨x, 5, none⟩ = some (.int .i64 gr) ∧ w9.cell? ⟨x, 6, none⟩ = some (.int .i64 si)) ∧ (w9.cell? ⟨y, 0, none⟩ = some (.int .i64 g0) ∧ w9.cell? ⟨y, 1, none⟩ = some (.int .i64 g1) ∧ w9.cell? ⟨y, 2, none⟩ = some (.int .i64 2) ∧ w9.cell? ⟨y, 3, none⟩ = some (.int .i64 g3) ∧ w9.cell? ⟨y, 4, none⟩ = some (.int .i64 gl) ∧ w9.cell? ⟨y, 5, none⟩ = some (.int .i64 gr) ∧ w9.cell? ⟨y, 6, none⟩ = some (.int .i64 si)))
      ((refine (fun hg => ⟨hg, hX7 _ hg, hY _ hg⟩) ?_; (repeat (first | with_reducible exact Gr.refl _ | with_reducible assumption | with_reducible refine Gr.setCell ?_ (by simp; try omega) _ | with_reducible refine Gr.alloc ?_ _ | with_reducible refine Gr.drew ?_ | with_reducible refine Gr.drewN ?_ _ | with_reducible refine Gr.trans ?_ (by assumption)))))
      (first
        | (go_at_call 13; refine (left_any _ _ _ _ _ _ _ _ _).mono ?_; rintro e w8 ⟨rfl, hg8⟩))
    go_wp2_with fail
    go_ret
    exact ⟨rfl, by (repeat (first | with_reducible exact Gr.refl _ | with_reducible assumption | with_reducible refine Gr.setCell ?_ (by simp; try omega) _ | with_reducible refine Gr.alloc ?_ _ | with_reducible refine Gr.drew ?_ | with_reducible refine Gr.drewN ?_ _ | with_reducible refine Gr.trans ?_ (by assumption)))⟩
end Go.Proofs.Ytomflpkokcldeaa
