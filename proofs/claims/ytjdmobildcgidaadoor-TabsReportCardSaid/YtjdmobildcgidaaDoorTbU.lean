/-
  Tab stops: both texts' stops looked at behind an act, case b (gen_tbu.py).
-/
import Derived.Test.YtjdmobildcgidaaDoorTbU0
namespace Go.Proofs.YtjdmobildcgidaaDoor
set_option linter.unusedSimpArgs false
set_option linter.unusedVariables false
open Go.RowKit
set_option linter.unusedVariables false

set_option maxRecDepth 1000000 in
set_option maxHeartbeats 8000000 in
theorem reg27B (Q : Exit → Act → World → Prop) (p N bx : Nat) (va : Option Addr) (cap' : Nat) (n : Int) (l : List Bool) (wc : World) (u0 u1 u2 u3 u4 u5 u6 u9 u11 u12 u13 u14 u15 u16 u17 u18 u19 u20 u21 u22 u23 u24 u25 u26 u27 u28 u29 u30 u31 u32 u33 u34 u35 u36 u37 u38 u39 u40 u41 u42 u43 u44 u45 u46 u47 u48 u49 u50 u51 u52 u53 u54 u55 u56 u57 u58 u59 u60 u61 u62 u63 u64 u65 u66 u67 u68 u69 u70 u71 u72 u73 u74 u75 u76 u77 u78 u79 u80 u81 u82 u83 u84 u85 u86 u87 u88 u89 u90 u91 u92 u93 u94 u95 u96 u97 u98 u99 u100 u101 u102 u103 u104 u105 u106 u107 u108 u109 u110 u111 u112 u113 u114 u115 u116 u117 u118 u119 u120 u121 u122 u123 u124 u125 u126 u127 u128 u129 u130 u131 u132 u133 : Value) (h0 : 0 ≤ n) (h1d : ¬ n < (N : Int))
    (hcols : ∀ W, Gr wc W → Calls Tryd.prog 21 #[.pointer (some ⟨p, 0, none⟩)] W fun e w' => e = .returned (.int .i64 (N : Nat)) ∧ W = w')
    (hlist : ∀ W, Gr wc W → Calls Tryd.prog 19 #[.pointer (some ⟨p, 0, none⟩)] W (NOut W (listF (lf l) 512)))
    (hrlist : ∀ W, Gr wc W → Calls Tryd.prog 20 #[.slice va N cap'] W (NOut W (listF (lf l) 512)))
    (hhas : ∀ W, Gr wc W → Calls Tryd.prog 15 #[.pointer (some ⟨p, 0, none⟩), .int .i64 n] W fun e w' => e = .returned (.bool false) ∧ W = w')
    (hnl : (listF (lf l) 512).length ≤ 100000) (kn : wc.cell? ⟨bx, 1, none⟩ = some (.int .i64 n))
    (hQ : ∀ (y0 y1 y2 y3 y4 y5 y6 y7 y8 y9 y10 y11 y12 y13 y14 y15 y16 y17 y18 y19 y20 y21 y22 y23 y24 y25 y26 y27 y28 y29 y30 y31 y32 y33 y34 y35 : Value) (w4 : World), Gr wc w4 → Q .normal ⟨#[u0, u1, u2, u3, u4, u5, u6, .pointer (some ⟨p, 0, none⟩), .slice va N cap', u9, .pointer (some ⟨bx, 0, none⟩), u11, u12, u13, u14, u15, u16, u17, u18, u19, u20, u21, u22, u23, u24, u25, u26, u27, u28, u29, u30, u31, u32, u33, u34, u35, u36, u37, u38, u39, u40, u41, u42, u43, u44, u45, u46, u47, u48, u49, u50, u51, u52, u53, u54, u55, u56, u57, u58, u59, u60, u61, u62, u63, u64, u65, u66, u67, u68, u69, u70, u71, u72, u73, u74, u75, u76, u77, u78, u79, u80, u81, u82, u83, u84, u85, u86, u87, u88, u89, u90, u91, u92, u93, u94, y0, y1, y2, y3, y4, y5, y6, y7, y8, y9, y10, y11, y12, y13, y14, y15, y16, y17, y18, y19, y20, y21, y22, y23, y24, y25, y26, y27, y28, y29, y30, y31, y32, y33, y34, y35, .bool false, u132, u133], []⟩ w4) : Code.wp Tryd.prog code27 Q ⟨#[u0, u1, u2, u3, u4, u5, u6, .pointer (some ⟨p, 0, none⟩), .slice va N cap', u9, .pointer (some ⟨bx, 0, none⟩), u11, u12, u13, u14, u15, u16, u17, u18, u19, u20, u21, u22, u23, u24, u25, u26, u27, u28, u29, u30, u31, u32, u33, u34, u35, u36, u37, u38, u39, u40, u41, u42, u43, u44, u45, u46, u47, u48, u49, u50, u51, u52, u53, u54, u55, u56, u57, u58, u59, u60, u61, u62, u63, u64, u65, u66, u67, u68, u69, u70, u71, u72, u73, u74, u75, u76, u77, u78, u79, u80, u81, u82, u83, u84, u85, u86, u87, u88, u89, u90, u91, u92, u93, u94, u95, u96, u97, u98, u99, u100, u101, u102, u103, u104, u105, u106, u107, u108, u109, u110, u111, u112, u113, u114, u115, u116, u117, u118, u119, u120, u121, u122, u123, u124, u125, u126, u127, u128, u129, u130, u131, u132, u133], []⟩ wc := by
  conv => arg 2; whnf
  refine wp_region_facts6 (pqB p N bx va cap' n (listF (lf l) 512)) (Gr wc) (by kernel_rfl) (by kernel_rfl) (by kernel_rfl) ((Gr.refl _).drew) ?_ ?_
  · intro hap
    refine Steps.cons1 1 rfl rfl ?_ (Steps.cons1 2 rfl rfl ?_ (Steps.cons1 3 rfl rfl ?_ (Steps.cons1 4 rfl rfl ?_ (Steps.cons1 5 rfl rfl ?_ (Steps.cons1 6 rfl rfl ?_ (Steps.consY 7 rfl 5 false rfl hap (by kernel_rfl) ?_ ?_ (Steps.consY 8 rfl 5 false rfl hap (by kernel_rfl) ?_ ?_ (Steps.consY 9 rfl 5 false rfl hap (by kernel_rfl) ?_ ?_ (Steps.consY 10 rfl 5 false rfl hap (by kernel_rfl) ?_ ?_ (Steps.consY 11 rfl 5 false rfl hap (by kernel_rfl) ?_ ?_ (Steps.consY 12 rfl 5 false rfl hap (by kernel_rfl) ?_ ?_ (Steps.cons1 13 rfl rfl ?_ (Steps.cons1 14 rfl rfl ?_ (Steps.consY 15 rfl 13 false rfl hap (by kernel_rfl) ?_ ?_ (Steps.consY 16 rfl 13 false rfl hap (by kernel_rfl) ?_ ?_ (Steps.consY 17 rfl 13 false rfl hap (by kernel_rfl) ?_ ?_ (Steps.consY 18 rfl 13 false rfl hap (by kernel_rfl) ?_ ?_ (Steps.consY 19 rfl 13 false rfl hap (by kernel_rfl) ?_ ?_ (Steps.consY 20 rfl 13 false rfl hap (by kernel_rfl) ?_ ?_ (Steps.consY 21 rfl 13 false rfl hap (by kernel_rfl) ?_ ?_ (Steps.consY 22 rfl 13 false rfl hap (by kernel_rfl) ?_ ?_ (Steps.consY 23 rfl 21 true rfl hap (by kernel_rfl) ?_ ?_ (Steps.consY 24 rfl 21 true rfl hap (by kernel_rfl) ?_ ?_ (Steps.consY 25 rfl 21 true rfl hap (by kernel_rfl) ?_ ?_ (Steps.consY 26 rfl 21 true rfl hap (by kernel_rfl) ?_ ?_ (Steps.consY 27 rfl 21 true rfl hap (by kernel_rfl) ?_ ?_ (Steps.consY 28 rfl 13 false rfl hap (by kernel_rfl) ?_ ?_ (Steps.consY 29 rfl 13 false rfl hap (by kernel_rfl) ?_ ?_ (Steps.consN 30 rfl 28 true rfl hap (by kernel_rfl) ?_ (fun _ => trivial) (Steps.consN 31 rfl 28 true rfl hap (by kernel_rfl) ?_ (fun _ => trivial) (Steps.consN 32 rfl 28 true rfl hap (by kernel_rfl) ?_ (fun _ => trivial) (Steps.consN 33 rfl 28 true rfl hap (by kernel_rfl) ?_ (fun _ => trivial) (Steps.consN 34 rfl 28 true rfl hap (by kernel_rfl) ?_ (fun _ => trivial) (Steps.consY 35 rfl 13 false rfl hap (by kernel_rfl) ?_ ?_ (Steps.consY 36 rfl 13 false rfl hap (by kernel_rfl) ?_ ?_ (Steps.cons1 37 rfl rfl ?_ (Steps.nil)))))))))))))))))))))))))))))))))))))
    · (intro ys w' hB hP K hK; simp only [Preds, Region.binds, pqB, forall_const, and_true, true_and] at hP; simp only [fillA]; go_simp; (have h2 := fun v => hK v w' hB); simp only [pqB, forall_eq] at h2; (have h2 := h2 (fun _ _ _ h => h)); simp [fillA, Act.put, hP] at h2; exact h2)
    · (intro ys w' hB hP; simp only [Preds, Region.binds, pqB, forall_const, and_true, true_and] at hP)
      intro K hK
      simp only [fillA]
      go_simp
      refine (hcols _ hB).mono ?_
      rintro e w4 ⟨rfl, rfl⟩
      have h2 := hK _ _ hB rfl (fun j u _ h => h)
      simp [fillA, Act.put, hP] at h2
      exact h2
    · (intro ys w' hB hP K hK; simp only [Preds, Region.binds, pqB, forall_const, and_true, true_and] at hP; simp only [fillA]; go_simp; (have h2 := fun v => hK v w' hB); simp only [pqB, forall_eq] at h2; (have h2 := h2 (fun _ _ _ h => h)); simp [fillA, Act.put, hP] at h2; exact h2)
    · (intro ys w' hB hP K hK; simp only [Preds, Region.binds, pqB, forall_const, and_true, true_and] at hP; simp only [fillA]; go_simp; (have h2 := fun v => hK v w' hB); simp only [pqB, forall_eq] at h2; (have h2 := h2 (fun _ _ _ h => h)); simp [fillA, Act.put, hP] at h2; exact h2)
    · (intro ys w' hB hP K hK; simp only [Preds, Region.binds, pqB, forall_const, and_true, true_and] at hP; simp only [fillA]; go_simp; (have h2 := fun v => hK v w' hB); simp only [pqB, forall_eq] at h2; (have h2 := h2 (fun _ _ _ h => h)); simp [fillA, Act.put, hP] at h2; exact h2)
    · (intro ys w' hB hP K hK; simp only [Preds, Region.binds, pqB, forall_const, and_true, true_and] at hP; simp only [fillA]; go_simp; (have h2 := fun v => hK v w' hB); simp only [pqB, forall_eq] at h2; (have h2 := h2 (fun _ _ _ h => h)); simp [fillA, Act.put, hP] at h2; exact h2)
    · (intro ys w' hB hP; simp only [Preds, Region.binds, pqB, forall_const, and_true, true_and] at hP; simp [hP])
    · (intro ys w' hB hP K hK; simp only [Preds, Region.binds, pqB, forall_const, and_true, true_and] at hP; simp only [fillA]; go_simp; (have h2 := fun v => hK v w' hB); simp only [pqB, forall_eq] at h2; (have h2 := h2 (fun _ _ _ h => h)); simp [fillA, Act.put, hP] at h2; exact h2)
    · (intro ys w' hB hP; simp only [Preds, Region.binds, pqB, forall_const, and_true, true_and] at hP; simp [hP])
    · (intro ys w' hB hP; simp only [Preds, Region.binds, pqB, forall_const, and_true, true_and] at hP)
      intro K hK
      simp only [fillA]
      go_simp
      refine (hlist _ hB).mono ?_
      rintro e w4 ⟨va4, cap4, rfl, hown4, hg4⟩
      have h2 := hK _ _ (hB.trans hg4) (HasRow.of_own hown4) (fun j u _ h => h.gr hg4)
      simp [fillA, Act.put, hP] at h2
      exact h2
    · (intro ys w' hB hP; simp only [Preds, Region.binds, pqB, forall_const, and_true, true_and] at hP; simp [hP])
    · (intro ys w' hB hP K hK; simp only [Preds, Region.binds, pqB, forall_const, and_true, true_and] at hP; simp only [fillA]; go_simp; (have h2 := fun v => hK v w' hB); simp only [pqB, forall_eq] at h2; (have h2 := h2 (fun _ _ _ h => h)); simp [fillA, Act.put, hP] at h2; exact h2)
    · (intro ys w' hB hP; simp only [Preds, Region.binds, pqB, forall_const, and_true, true_and] at hP; simp [hP])
    · (intro ys w' hB hP; simp only [Preds, Region.binds, pqB, forall_const, and_true, true_and] at hP)
      intro K hK
      simp only [fillA]
      go_simp
      refine (hrlist _ hB).mono ?_
      rintro e w4 ⟨va4, cap4, rfl, hown4, hg4⟩
      have h2 := hK _ _ (hB.trans hg4) (HasRow.of_own hown4) (fun j u _ h => h.gr hg4)
      simp [fillA, Act.put, hP] at h2
      exact h2
    · (intro ys w' hB hP; simp only [Preds, Region.binds, pqB, forall_const, and_true, true_and] at hP; simp [hP])
    · (intro ys w' hB hP; simp only [Preds, Region.binds, pqB, forall_const, and_true, true_and] at hP)
      obtain ⟨hr7, hr9, hr9b, h5⟩ := hP
      have hsi := same_nums hr7 hr9 hnl
      obtain ⟨y7, hy7⟩ : ∃ y, ys 7 = y := ⟨_, rfl⟩
      obtain ⟨y9, hy9⟩ : ∃ y, ys 9 = y := ⟨_, rfl⟩
      rw [hy7, hy9] at hsi
      clear hr7 hr9 hr9b
      intro K hK
      simp only [fillA]
      go_simp
      refine hsi.mono ?_
      rintro e w4 ⟨rfl, hg4⟩
      have h2 := hK _ _ (hB.trans hg4) rfl (fun j u _ h => h.gr hg4)
      simp [fillA, Act.put, hy7, hy9, h5] at h2
      exact h2
    · (intro ys w' hB hP; simp only [Preds, Region.binds, pqB, forall_const, and_true, true_and] at hP; simp [hP])
    · (intro ys w' hB hP K hK; simp only [Preds, Region.binds, pqB, forall_const, and_true, true_and] at hP; simp only [fillA]; go_simp; (have h2 := fun v => hK v w' hB); simp only [pqB, forall_eq] at h2; (have h2 := h2 (fun _ _ _ h => h)); simp [fillA, Act.put, hP] at h2; exact h2)
    · (intro ys w' hB hP K hK; simp only [Preds, Region.binds, pqB, forall_const, and_true, true_and] at hP; simp only [fillA]; go_simp; (have h2 := fun v => hK v w' hB); simp only [pqB, forall_eq] at h2; (have h2 := h2 (fun _ _ _ h => h)); simp [fillA, Act.put, hP] at h2; exact h2)
    · (intro ys w' hB hP K hK; simp only [Preds, Region.binds, pqB, forall_const, and_true, true_and] at hP; simp only [fillA]; go_simp; (have h2 := fun v => hK v w' hB); simp only [pqB, forall_eq] at h2; (have h2 := h2 (fun _ _ _ h => h)); simp [fillA, Act.put, hP] at h2; exact h2)
    · (intro ys w' hB hP; simp only [Preds, Region.binds, pqB, forall_const, and_true, true_and] at hP; simp [hP])
    · (intro ys w' hB hP K hK; simp only [Preds, Region.binds, pqB, forall_const, and_true, true_and] at hP; simp only [fillA]; go_simp; (have h2 := fun v => hK v w' hB); simp only [pqB, forall_eq] at h2; (have h2 := h2 (fun _ _ _ h => h)); simp [fillA, Act.put, hP] at h2; exact h2)
    · (intro ys w' hB hP; simp only [Preds, Region.binds, pqB, forall_const, and_true, true_and] at hP; simp [hP])
    · (intro ys w' hB hP K hK; simp only [Preds, Region.binds, pqB, forall_const, and_true, true_and] at hP; simp only [fillA]; go_simp; (have h2 := fun v => hK v w' hB); simp only [pqB, forall_eq] at h2; (have h2 := h2 (fun _ _ _ h => h)); simp [fillA, Act.put, hP] at h2; exact h2)
    · (intro ys w' hB hP; simp only [Preds, Region.binds, pqB, forall_const, and_true, true_and] at hP; simp [hP])
    · (intro ys w' hB hP; simp only [Preds, Region.binds, pqB, forall_const, and_true, true_and] at hP)
      have kn2 := hB.cellAt kn
      intro K hK
      simp only [fillA]
      go_simp
      have h2 := hK _ w' hB rfl (fun j u _ h => h)
      simp [fillA, Act.put, hP] at h2
      exact h2
    · (intro ys w' hB hP; simp only [Preds, Region.binds, pqB, forall_const, and_true, true_and] at hP; simp [hP])
    · (intro ys w' hB hP; simp only [Preds, Region.binds, pqB, forall_const, and_true, true_and] at hP)
      intro K hK
      simp only [fillA]
      go_simp
      refine (hhas _ hB).mono ?_
      rintro e w4 ⟨rfl, rfl⟩
      have h2 := hK _ _ hB rfl (fun j u _ h => h)
      simp [fillA, Act.put, hP] at h2
      exact h2
    · (intro ys w' hB hP; simp only [Preds, Region.binds, pqB, forall_const, and_true, true_and] at hP; simp [hP])
    · (intro ys w' hB hP K hK; simp only [Preds, Region.binds, pqB, forall_const, and_true, true_and] at hP; simp only [fillA]; go_simp; (have h2 := fun v => hK v w' hB); simp only [pqB, forall_eq] at h2; (have h2 := h2 (fun _ _ _ h => h)); simp [fillA, Act.put, hP] at h2; exact h2)
    · (intro ys w' hB hP; simp only [Preds, Region.binds, pqB, forall_const, and_true, true_and] at hP; simp [hP])
    · (intro ys w' hB hP; simp only [Preds, Region.binds, pqB, forall_const, and_true, true_and] at hP)
      have kn2 := hB.cellAt kn
      intro K hK
      simp only [fillA]
      go_simp
      have h2 := hK _ w' hB rfl (fun j u _ h => h)
      simp [fillA, Act.put, hP] at h2
      exact h2
    · (intro ys w' hB hP; simp only [Preds, Region.binds, pqB, forall_const, and_true, true_and] at hP; simp [hP])
    · (intro ys w' hB hP K hK; simp only [Preds, Region.binds, pqB, forall_const, and_true, true_and] at hP; simp only [fillA]; go_simp; (have h2 := fun v => hK v w' hB); simp only [pqB, forall_eq] at h2; (have h2 := h2 (fun _ _ _ h => h)); simp [fillA, Act.put, hP] at h2; exact h2)
    · (intro ys w' hB hP; simp only [Preds, Region.binds, pqB, forall_const, and_true, true_and] at hP; simp [hP])
    · (intro ys w' hB hP K hK; simp only [Preds, Region.binds, pqB, forall_const, and_true, true_and] at hP; simp only [fillA]; go_simp; (have h2 := fun v => hK v w' hB); simp only [pqB, forall_eq] at h2; (have h2 := h2 (fun _ _ _ h => h)); simp [fillA, Act.put, hP] at h2; exact h2)
    · (intro ys w' hB hP; simp only [Preds, Region.binds, pqB, forall_const, and_true, true_and] at hP; simp [hP])
    · (intro ys w' hB hP K hK; simp only [Preds, Region.binds, pqB, forall_const, and_true, true_and] at hP; simp only [fillA]; go_simp; (have h2 := fun v => hK v w' hB); simp only [pqB, forall_eq] at h2; (have h2 := h2 (fun _ _ _ h => h)); simp [fillA, Act.put, hP] at h2; exact h2)
    · (intro ys w' hB hP; simp only [Preds, Region.binds, pqB, forall_const, and_true, true_and] at hP; simp [hP])
    · (intro ys w' hB hP; simp only [Preds, Region.binds, pqB, forall_const, and_true, true_and] at hP)
      have kn2 := hB.cellAt kn
      intro K hK
      simp only [fillA]
      go_simp
      have h2 := hK _ w' hB rfl (fun j u _ h => h)
      simp [fillA, Act.put, hP] at h2
      exact h2
    · (intro ys w' hB hP; simp only [Preds, Region.binds, pqB, forall_const, and_true, true_and] at hP; simp [hP])
    · (intro ys w' hB hP K hK; simp only [Preds, Region.binds, pqB, forall_const, and_true, true_and] at hP; simp only [fillA]; go_simp; (have h2 := fun v => hK v w' hB); simp only [pqB, forall_eq] at h2; (have h2 := h2 (fun _ _ _ h => h)); simp [fillA, Act.put, hP] at h2; exact h2)
    · (intro ys w' hB hP; simp only [Preds, Region.binds, pqB, forall_const, and_true, true_and] at hP; simp [hP])
    · (intro ys w' hB hP K hK; simp only [Preds, Region.binds, pqB, forall_const, and_true, true_and] at hP; simp only [fillA]; go_simp; (have h2 := fun v => hK v w' hB); simp only [pqB, forall_eq] at h2; (have h2 := h2 (fun _ _ _ h => h)); simp [fillA, Act.put, hP] at h2; exact h2)
    · (intro ys w' hB hP; simp only [Preds, Region.binds, pqB, forall_const, and_true, true_and] at hP; simp [hP])
    · (intro ys w' hB hP K hK; simp only [Preds, Region.binds, pqB, forall_const, and_true, true_and] at hP; simp only [fillA]; go_simp; (have h2 := fun v => hK v w' hB); simp only [pqB, forall_eq] at h2; (have h2 := h2 (fun _ _ _ h => h)); simp [fillA, Act.put, hP] at h2; exact h2)
    · (intro ys w' hB hP; simp only [Preds, Region.binds, pqB, forall_const, and_true, true_and] at hP; simp [hP])
    · (intro ys w' hB hP K hK; simp only [Preds, Region.binds, pqB, forall_const, and_true, true_and] at hP; simp only [fillA]; go_simp; (have h2 := fun v => hK v w' hB); simp only [pqB, forall_eq] at h2; (have h2 := h2 (fun _ _ _ h => h)); simp [fillA, Act.put, hP] at h2; exact h2)
    · (intro ys w' hB hP; simp only [Preds, Region.binds, pqB, forall_const, and_true, true_and] at hP; simp [hP])
    · (intro ys w' hB hP K hK; simp only [Preds, Region.binds, pqB, forall_const, and_true, true_and] at hP; simp only [fillA]; go_simp; (have h2 := fun v => hK v w' hB); simp only [pqB, forall_eq] at h2; (have h2 := h2 (fun _ _ _ h => h)); simp [fillA, Act.put, hP] at h2; exact h2)
    · (intro ys w' hB hP; simp only [Preds, Region.binds, pqB, forall_const, and_true, true_and] at hP; simp [hP])
    · (intro ys w' hB hP; simp only [Preds, Region.binds, pqB, forall_const, and_true, true_and] at hP; simp [hP])
    · (intro ys w' hB hP; simp only [Preds, Region.binds, pqB, forall_const, and_true, true_and] at hP; simp [hP])
    · (intro ys w' hB hP; simp only [Preds, Region.binds, pqB, forall_const, and_true, true_and] at hP; simp [hP])
    · (intro ys w' hB hP; simp only [Preds, Region.binds, pqB, forall_const, and_true, true_and] at hP; simp [hP])
    · (intro ys w' hB hP; simp only [Preds, Region.binds, pqB, forall_const, and_true, true_and] at hP; simp [hP])
    · (intro ys w' hB hP K hK; simp only [Preds, Region.binds, pqB, forall_const, and_true, true_and] at hP; simp only [fillA]; go_simp; (have h2 := fun v => hK v w' hB); simp only [pqB, forall_eq] at h2; (have h2 := h2 (fun _ _ _ h => h)); simp [fillA, Act.put, hP] at h2; exact h2)
    · (intro ys w' hB hP; simp only [Preds, Region.binds, pqB, forall_const, and_true, true_and] at hP; simp [hP])
    · (intro ys w' hB hP K hK; simp only [Preds, Region.binds, pqB, forall_const, and_true, true_and] at hP; simp only [fillA]; go_simp; (have h2 := fun v => hK v w' hB); simp only [pqB, forall_eq] at h2; (have h2 := h2 (fun _ _ _ h => h)); simp [fillA, Act.put, hP] at h2; exact h2)
    · (intro ys w' hB hP K hK; simp only [Preds, Region.binds, pqB, forall_const, and_true, true_and] at hP; simp only [fillA]; go_simp; (have h2 := fun v => hK v w' hB); simp only [pqB, forall_eq] at h2; (have h2 := h2 (fun _ _ _ h => h)); simp [fillA, Act.put, hP] at h2; exact h2)
  · intro ys w4 hB hF
    have f36 : ys 36 = _ := hF 36 (by decide)
    simp only [fillA, f36, Act.put, Nat.zero_add, List.setIfInBounds_toArray, List.set_cons_zero, List.set_cons_succ]
    exact hQ _ _ _ _ _ _ _ _ _ _ _ _ _ _ _ _ _ _ _ _ _ _ _ _ _ _ _ _ _ _ _ _ _ _ _ _ w4 hB
end Go.Proofs.YtjdmobildcgidaaDoor
