/-
  The law TokenUnlike, walked.
-/
import Derived.Test.YtgbmjlajheeciaaDoorZTkY
namespace Go.Proofs.YtgbmjlajheeciaaDoor
set_option linter.unusedSimpArgs false
set_option linter.unusedVariables false
open Go.RowKit
set_option linter.unusedVariables false

theorem bytes_in {t : Tok} (hr : TRange t) (h : Can t) (eight : Bool) : ∀ c ∈ bytesR t eight, 0 ≤ c ∧ c < 256 := by
  have hpr : ∀ x : Int, 0 ≤ x → x < 256 → ∀ c ∈ pairR x eight, 0 ≤ c ∧ c < 256 := by
    intro x h0 h1 c hc
    unfold pairR at hc
    split at hc
    · rename_i hx
      simp at hc; omega
    · simp at hc; omega
  have hf : ∀ ps, ∀ c ∈ fmtR ps, 0 ≤ c ∧ c < 256 := fun ps c hc => by have := fmtR_in ps c hc; omega
  have hl : ∀ {l : List Int}, IntsOk l → ∀ c ∈ l, 0 ≤ c ∧ c < 256 := fun h c hc => by have := h.2 c hc; omega
  have hb : ∀ k, 0 ≤ begR k ∧ begR k < 256 := fun k => by unfold begR; (repeat' split) <;> omega
  cases h with
  | print c hh => intro x hx; simp [bytesR] at hx; omega
  | ctrl c hh => intro x hx; simp [bytesR] at hx; omega
  | esc c l hh hl0 hx =>
    intro x hx
    by_cases h0 : l = []
    · subst h0
      simp [bytesR] at hx
      exact hpr c (by omega) (by omega) x hx
    · simp [bytesR, h0] at hx
      rcases hx with rfl | hx | rfl
      · omega
      · exact hl hl0 x hx
      · omega
  | csi c m ps l hh hm hps hl0 =>
    intro x hx
    simp [bytesR] at hx
    rcases hx with hx | hx | hx | hx | hx
    · exact hpr _ (hb 4).1 (hb 4).2 x hx
    · rcases hm with hm | hm <;> omega
    · exact hf ps x hx
    · exact hl hl0 x hx
    · omega
  | dcs c m ps l d hh hm hps hl0 hd =>
    intro x hx
    simp [bytesR] at hx
    rcases hx with hx | hx | hx | hx | hx | hx | hx
    · exact hpr _ (hb 5).1 (hb 5).2 x hx
    · rcases hm with hm | hm <;> omega
    · exact hf ps x hx
    · exact hl hl0 x hx
    · omega
    · exact hr.data x hx
    · exact hpr 92 (by omega) (by omega) x hx
  | str k d hk hd =>
    intro x hx
    have h1 : ¬ k < 3 := by omega
    have h2 : ¬ k = 3 := by omega
    have h3 : ¬ k < 6 := by omega
    have h4 : 4 < k := by omega
    simp [bytesR, h1, h2, h3, h4] at hx
    rcases hx with hx | hx | hx
    · exact hpr _ (hb k).1 (hb k).2 x hx
    · exact hr.data x hx
    · exact hpr 92 (by omega) (by omega) x hx
def unF (b : Nat) (k1 c1 m1 : Int) (s1 : ByteArray) (n1 o1 : Nat) (k2 c2 m2 : Int) (s2 : ByteArray) (n2 o2 : Nat) (a1 b1 a2 b2 pa1 da1 pa2 da2 : Option Addr) (d1 e1 d2 e2 pc1 dc1 pc2 dc2 : Nat) (Z : Bool) (B : Nat) (T1 : Tok) : Nat → Value → World → Prop
  | 0, v, _ => v = .agg #[.int .i64 k1, .int .u8 c1, .int .u8 m1, .slice pa1 n1 pc1, .string s1, .slice da1 o1 dc1]
  | 1, v, _ => v = .agg #[.int .i64 k2, .int .u8 c2, .int .u8 m2, .slice pa2 n2 pc2, .string s2, .slice da2 o2 dc2]
  | 2, v, _ => v = .bool Z
  | 3, v, _ => v = .agg #[.int .i64 k1, .int .u8 c1, .int .u8 m1, .slice a1 n1 d1, .string s1, .slice b1 o1 e1]
  | 4, v, _ => v = .agg #[.int .i64 k2, .int .u8 c2, .int .u8 m2, .slice a2 n2 d2, .string s2, .slice b2 o2 e2]
  | 5, v, _ => v = .bool Z
  | 6, v, _ => v = .bool false
  | 7, v, _ => v = .bool false
  | 8, v, _ => v = .agg #[.int .i64 k1, .int .u8 c1, .int .u8 m1, .slice pa1 n1 pc1, .string s1, .slice da1 o1 dc1]
  | 9, v, _ => v = .agg #[.int .i64 k1, .int .u8 c1, .int .u8 m1, .slice a1 n1 d1, .string s1, .slice b1 o1 e1]
  | 10, v, w' => ∃ pa pc da dc, v = .agg #[.int .i64 k1, .int .u8 c1, .int .u8 m1, .slice pa n1 pc, .string s1, .slice da o1 dc] ∧ OTok B w' T1 (.slice pa n1 pc, .slice da o1 dc)
  | 11, v, _ => v = .bool true
  | 12, v, _ => v = .bool false
  | 13, v, _ => v = .bool false
  | _, _, _ => True
theorem unF.gr {b : Nat} {k1 c1 m1 : Int} {s1 : ByteArray} {n1 o1 : Nat} {k2 c2 m2 : Int} {s2 : ByteArray} {n2 o2 : Nat} {a1 b1 a2 b2 pa1 da1 pa2 da2 : Option Addr} {d1 e1 d2 e2 pc1 dc1 pc2 dc2 : Nat} {Z : Bool} {B : Nat} {T1 : Tok} {w1 w2 : World} {j : Nat} {u : Value} (h : unF b k1 c1 m1 s1 n1 o1 k2 c2 m2 s2 n2 o2 a1 b1 a2 b2 pa1 da1 pa2 da2 d1 e1 d2 e2 pc1 dc1 pc2 dc2 Z B T1 j u w1) (hg : Gr w1 w2) : unF b k1 c1 m1 s1 n1 o1 k2 c2 m2 s2 n2 o2 a1 b1 a2 b2 pa1 da1 pa2 da2 d1 e1 d2 e2 pc1 dc1 pc2 dc2 Z B T1 j u w2 := by
  unfold unF at h ⊢
  split <;> first | exact h | skip
  · obtain ⟨pa, pc, da, dc, e, h⟩ := h; exact ⟨pa, pc, da, dc, e, h.gr hg⟩
  all_goals trivial
def unA (k1 c1 m1 : Int) (s1 : ByteArray) (n1 o1 : Nat) (k2 c2 m2 : Int) (s2 : ByteArray) (n2 o2 : Nat) (a1 b1 a2 b2 va1 va2 : Option Addr) (d1 e1 d2 e2 nv1 vc1 nv2 vc2 : Nat) (X1 X2 : ByteArray) : Nat → Value → World → Prop
  | 0, v, _ => v = .int .i64 0
  | 1, v, _ => v = .bool true
  | 2, v, _ => v = .bool true
  | 3, v, _ => v = .int .i64 0
  | 4, v, _ => v = .bool true
  | 5, v, _ => v = .bool true
  | 6, v, _ => v = .bool true
  | 7, v, _ => v = .slice va1 nv1 vc1
  | 8, v, _ => v = .string X1
  | 9, v, _ => v = .slice va2 nv2 vc2
  | 10, v, _ => v = .string X1
  | 11, v, _ => v = .bool true
  | 12, v, _ => v = .agg #[.int .i64 k1, .int .u8 c1, .int .u8 m1, .slice a1 n1 d1, .string s1, .slice b1 o1 e1]
  | 13, v, _ => v = .agg #[.int .i64 k2, .int .u8 c2, .int .u8 m2, .slice a2 n2 d2, .string s2, .slice b2 o2 e2]
  | 14, v, _ => v = .bool true
  | 15, v, _ => v = .bool true
  | 16, v, _ => v = .bool true
  | 17, v, _ => v = .bool true
  | _, _, _ => True
theorem unA.gr {k1 c1 m1 : Int} {s1 : ByteArray} {n1 o1 : Nat} {k2 c2 m2 : Int} {s2 : ByteArray} {n2 o2 : Nat} {a1 b1 a2 b2 va1 va2 : Option Addr} {d1 e1 d2 e2 nv1 vc1 nv2 vc2 : Nat} {X1 X2 : ByteArray} {w1 w2 : World} {j : Nat} {u : Value} (h : unA k1 c1 m1 s1 n1 o1 k2 c2 m2 s2 n2 o2 a1 b1 a2 b2 va1 va2 d1 e1 d2 e2 nv1 vc1 nv2 vc2 X1 X2 j u w1) (hg : Gr w1 w2) : unA k1 c1 m1 s1 n1 o1 k2 c2 m2 s2 n2 o2 a1 b1 a2 b2 va1 va2 d1 e1 d2 e2 nv1 vc1 nv2 vc2 X1 X2 j u w2 := by
  unfold unA at h ⊢
  split <;> first | exact h | skip
  all_goals trivial
def unB (k1 c1 m1 : Int) (s1 : ByteArray) (n1 o1 : Nat) (k2 c2 m2 : Int) (s2 : ByteArray) (n2 o2 : Nat) (a1 b1 a2 b2 va1 va2 : Option Addr) (d1 e1 d2 e2 nv1 vc1 nv2 vc2 : Nat) (X1 X2 : ByteArray) : Nat → Value → World → Prop
  | 0, v, _ => v = .int .i64 0
  | 1, v, _ => v = .bool true
  | 2, v, _ => v = .bool true
  | 3, v, _ => v = .int .i64 0
  | 4, v, _ => v = .bool true
  | 5, v, _ => v = .bool true
  | 6, v, _ => v = .bool true
  | 7, v, _ => v = .slice va1 nv1 vc1
  | 8, v, _ => v = .string X1
  | 9, v, _ => v = .slice va2 nv2 vc2
  | 10, v, _ => v = .string X2
  | 11, v, _ => v = .bool false
  | 12, v, _ => v = .agg #[.int .i64 k1, .int .u8 c1, .int .u8 m1, .slice a1 n1 d1, .string s1, .slice b1 o1 e1]
  | 13, v, _ => v = .agg #[.int .i64 k2, .int .u8 c2, .int .u8 m2, .slice a2 n2 d2, .string s2, .slice b2 o2 e2]
  | 14, v, _ => v = .bool false
  | 15, v, _ => v = .bool true
  | 16, v, _ => v = .bool true
  | 17, v, _ => v = .bool true
  | _, _, _ => True
theorem unB.gr {k1 c1 m1 : Int} {s1 : ByteArray} {n1 o1 : Nat} {k2 c2 m2 : Int} {s2 : ByteArray} {n2 o2 : Nat} {a1 b1 a2 b2 va1 va2 : Option Addr} {d1 e1 d2 e2 nv1 vc1 nv2 vc2 : Nat} {X1 X2 : ByteArray} {w1 w2 : World} {j : Nat} {u : Value} (h : unB k1 c1 m1 s1 n1 o1 k2 c2 m2 s2 n2 o2 a1 b1 a2 b2 va1 va2 d1 e1 d2 e2 nv1 vc1 nv2 vc2 X1 X2 j u w1) (hg : Gr w1 w2) : unB k1 c1 m1 s1 n1 o1 k2 c2 m2 s2 n2 o2 a1 b1 a2 b2 va1 va2 d1 e1 d2 e2 nv1 vc1 nv2 vc2 X1 X2 j u w2 := by
  unfold unB at h ⊢
  split <;> first | exact h | skip
  all_goals trivial

set_option maxRecDepth 100000 in
set_option maxHeartbeats 8000000 in
theorem unlike_walk {w : World} {T1 T2 : Tok} {k1 c1 m1 r1 k2 c2 m2 r2 : Int} {s1 s2 : ByteArray} {a1 b1 a2 b2 : Option Addr} {n1 d1 o1 e1 n2 d2 o2 e2 : Nat} (eight : Bool) (K1 : TokKit w T1 k1 c1 m1 s1 a1 b1 n1 d1 o1 e1 r1) (K2 : TokKit w T2 k2 c2 m2 s2 a2 b2 n2 d2 o2 e2 r2) (hT : tabT w) :
    Calls Tryd.prog 4 #[.agg #[.int .i64 k1, .int .u8 c1, .int .u8 m1, .slice a1 n1 d1, .string s1, .slice b1 o1 e1], .agg #[.int .i64 k2, .int .u8 c2, .int .u8 m2, .slice a2 n2 d2, .string s2, .slice b2 o2 e2], .bool eight] w fun e w' => e = .returned (.bool true) ∧ Gr w w' := by
  have haw := fun (W : World) (hg : Gr w W) => awake11 (hT.gr hg)
  have hb1 := heap_alloc_new w (.cells #[.int .i64 k1, .int .u8 c1, .int .u8 m1, .slice a1 n1 d1, .string s1, .slice b1 o1 e1] 25)
  have hb2 := heap_new2 w (.cells #[.int .i64 k1, .int .u8 c1, .int .u8 m1, .slice a1 n1 d1, .string s1, .slice b1 o1 e1] 25) (.cells #[.int .i64 k2, .int .u8 c2, .int .u8 m2, .slice a2 n2 d2, .string s2, .slice b2 o2 e2] 25)
  have hw0 := ((Gr.refl w).alloc (.cells #[.int .i64 k1, .int .u8 c1, .int .u8 m1, .slice a1 n1 d1, .string s1, .slice b1 o1 e1] 25)).alloc (.cells #[.int .i64 k2, .int .u8 c2, .int .u8 m2, .slice a2 n2 d2, .string s2, .slice b2 o2 e2] 25)
  have hb1 : ∀ w9, Gr ((w.alloc (.cells #[.int .i64 k1, .int .u8 c1, .int .u8 m1, .slice a1 n1 d1, .string s1, .slice b1 o1 e1] 25)).alloc (.cells #[.int .i64 k2, .int .u8 c2, .int .u8 m2, .slice a2 n2 d2, .string s2, .slice b2 o2 e2] 25)) w9 → w9.heap[w.heap.size]? = some (.cells #[.int .i64 k1, .int .u8 c1, .int .u8 m1, .slice a1 n1 d1, .string s1, .slice b1 o1 e1] 25 (0, 0)) := fun w9 hg => hg.blk (((Gr.refl _).alloc _).blk hb1)
  have hb2 : ∀ w9, Gr ((w.alloc (.cells #[.int .i64 k1, .int .u8 c1, .int .u8 m1, .slice a1 n1 d1, .string s1, .slice b1 o1 e1] 25)).alloc (.cells #[.int .i64 k2, .int .u8 c2, .int .u8 m2, .slice a2 n2 d2, .string s2, .slice b2 o2 e2] 25)) w9 → w9.heap[w.heap.size + 1]? = some (.cells #[.int .i64 k2, .int .u8 c2, .int .u8 m2, .slice a2 n2 d2, .string s2, .slice b2 o2 e2] 25 (0, 0)) := fun w9 hg => hg.blk hb2
  go_enter Tryd.func4, Tryd.ntmps4
  go_upto_region 1 with (fail)
  obtain ⟨wb, hwb⟩ : ∃ wb, wb = (w.alloc (.cells #[.int .i64 k1, .int .u8 c1, .int .u8 m1, .slice a1 n1 d1, .string s1, .slice b1 o1 e1] 25)).alloc (.cells #[.int .i64 k2, .int .u8 c2, .int .u8 m2, .slice a2 n2 d2, .string s2, .slice b2 o2 e2] 25) := ⟨_, rfl⟩
  rw [← hwb] at hb1 hb2 hw0 ⊢
  have hS1 := fun (w9 : World) (hg : Gr wb w9) => cells6 (hb1 w9 hg)
  have hS2 := fun (w9 : World) (hg : Gr wb w9) => cells6 (hb2 w9 hg)
  have hbz : w.heap.size + 1 < wb.heap.size := by rw [hwb]; simp
  clear hwb
  have P1 := Lib.hid K1.parts
  have P2 := Lib.hid K2.parts
  go_upto_region 3 with (go_at_call 8; (with_reducible refine (haw _ hw0).mono ?_); rintro e wR ⟨rfl, hgbR⟩)
  have hgR := hw0.trans hgbR
  have HS1 := Lib.hid (fun (w9 : World) (hg : Gr wR w9) => hS1 w9 (hgbR.trans hg))
  have HS2 := Lib.hid (fun (w9 : World) (hg : Gr wR w9) => hS2 w9 (hgbR.trans hg))
  clear hS1 hS2 hb1 hb2 hgbR haw hw0 hbz
  refine wp_region_facts5 (twoF wR T1 T2 k1 c1 m1 s1 n1 o1 k2 c2 m2 s2 n2 o2 (.agg #[.int .i64 k1, .int .u8 c1, .int .u8 m1, .slice a1 n1 d1, .string s1, .slice b1 o1 e1]) (.agg #[.int .i64 k2, .int .u8 c2, .int .u8 m2, .slice a2 n2 d2, .string s2, .slice b2 o2 e2])) twoD (Gr wR) (by kernel_rfl) (by kernel_rfl) (by kernel_rfl) ?_ ((Gr.refl _).drew) ?_ ?_
  · intro j o ho ys zs w' hj he hF
    match j, ho, hj, hF with
    | 0, ho, hj, hF | 1, ho, hj, hF | 2, ho, hj, hF | 3, ho, hj, hF | 4, ho, hj, hF | 5, ho, hj, hF => simp only [twoF] at hF ⊢; rw [← hj]; exact hF
    | 6, ho, hj, hF =>
      simp at ho; subst ho
      have := he ⟨4, .data⟩ (by simp) rfl
      simp only [twoF] at hF ⊢; rw [← this]; exact hF
    | 7, ho, hj, hF =>
      simp at ho; subst ho
      have := he ⟨5, .data⟩ (by simp) rfl
      simp only [twoF] at hF ⊢; rw [← this]; exact hF
    | _ + 8, ho, _, _ => simp at ho
  · refine Steps2.cons1 1 rfl rfl ?_ (Steps2.cons1 2 rfl rfl ?_ (Steps2.cons1 3 rfl rfl ?_ (Steps2.cons1 4 rfl rfl ?_ (Steps2.cons1 5 rfl rfl ?_ (Steps2.cons1 6 rfl rfl ?_ (Steps2.cons1 7 rfl rfl ?_ (Steps2.cons1 8 rfl rfl ?_ (Steps2.nil))))))))
    · (intro L ys w' hB hD hP hn; simp only [LAll, Region.binds, forall_const, and_true, true_and] at hP)
      obtain ⟨q0, q1, q2, q3, q4, q5, qf⟩ := HS1.out _ hB
      intro K hK
      simp only [fillA]
      go_simp
      have h2 := hK (.agg #[.int .i64 k1, .int .u8 c1, .int .u8 m1, .slice a1 n1 d1, .string s1, .slice b1 o1 e1]) w' hB (setY_at ys 0 _) (fun j _ h => h) (fun j _ => ⟨fun _ h4 => by omega, fun _ h4 h5 => by omega⟩)
      simp [fillA, Act.put] at h2
      exact h2
    · (intro L ys w' hB hD hP hn; simp only [LAll, Region.binds, forall_const, and_true, true_and] at hP)
      have f0 : ys 0 = .agg #[.int .i64 k1, .int .u8 c1, .int .u8 m1, .slice a1 n1 d1, .string s1, .slice b1 o1 e1] := hD.fact 0 (by first | exact hP | exact hP.1 | exact hP.2.1 | exact hP.2.2.1 | exact hP.2 | exact hP.2.2)
      intro K hK
      simp only [fillA]
      go_simp
      (with_reducible refine (K1.own _ (hgR.trans hB)).mono ?_)
      rintro e w4 ⟨pa, pc, da, dc, rfl, hO, hg⟩
      have h2 := hK (.agg #[.int .i64 k1, .int .u8 c1, .int .u8 m1, .slice pa n1 pc, .string s1, .slice da o1 dc]) w4 (hB.trans hg) ⟨pa, pc, da, dc, setY_at ys 1 _, hO.mono (gr_le hB)⟩ (fun j _ h => h.gr hg) (fun j _ => ⟨fun _ h4 => by omega, fun _ h4 h5 => by omega⟩)
      simp [fillA, Act.put, f0] at h2
      exact h2
    · (intro L ys w' hB hD hP hn; simp only [LAll, Region.binds, forall_const, and_true, true_and] at hP)
      obtain ⟨q0, q1, q2, q3, q4, q5, qf⟩ := HS2.out _ hB
      intro K hK
      simp only [fillA]
      go_simp
      have h2 := hK (.agg #[.int .i64 k2, .int .u8 c2, .int .u8 m2, .slice a2 n2 d2, .string s2, .slice b2 o2 e2]) w' hB (setY_at ys 2 _) (fun j _ h => h) (fun j _ => ⟨fun _ h4 => by omega, fun _ h4 h5 => by omega⟩)
      simp [fillA, Act.put] at h2
      exact h2
    · (intro L ys w' hB hD hP hn; simp only [LAll, Region.binds, forall_const, and_true, true_and] at hP)
      have f0 : ys 2 = .agg #[.int .i64 k2, .int .u8 c2, .int .u8 m2, .slice a2 n2 d2, .string s2, .slice b2 o2 e2] := hD.fact 2 (by first | exact hP | exact hP.1 | exact hP.2.1 | exact hP.2.2.1 | exact hP.2 | exact hP.2.2)
      intro K hK
      simp only [fillA]
      go_simp
      (with_reducible refine (K2.own _ (hgR.trans hB)).mono ?_)
      rintro e w4 ⟨pa, pc, da, dc, rfl, hO, hg⟩
      have h2 := hK (.agg #[.int .i64 k2, .int .u8 c2, .int .u8 m2, .slice pa n2 pc, .string s2, .slice da o2 dc]) w4 (hB.trans hg) ⟨pa, pc, da, dc, setY_at ys 3 _, hO.mono (gr_le hB)⟩ (fun j _ h => h.gr hg) (fun j _ => ⟨fun _ h4 => by omega, fun _ h4 h5 => by omega⟩)
      simp [fillA, Act.put, f0] at h2
      exact h2
    · (intro L ys w' hB hD hP hn; simp only [LAll, Region.binds, forall_const, and_true, true_and] at hP)
      have hno : ∀ v : Value, ys 5 = v → L 5 → v ≠ .pointer (some ⟨w'.heap.size, 0, none⟩) := by
        rintro v rfl hl e
        obtain ⟨g, h1, _, cs, _, h4⟩ := hD.fact 5 hl
        rw [e] at h1
        simp at h1
        subst h1
        simp at h4
      intro K hK
      simp only [fillA]
      go_simp
      have h2 := hK (.pointer (some ⟨w'.heap.size, 0, none⟩)) (w'.alloc (.cells #[.int .i64 0, .int .u8 0, .int .u8 0, .slice none 0 0, .string ⟨#[]⟩, .slice none 0 0] 27)) (hB.alloc _) ⟨_, setY_at ys 4 _, gr_le hB, _, rfl, heap_alloc_new _ _⟩ (fun j _ h => h.gr ((Gr.refl _).alloc _)) (fun j hj => ⟨fun _ h4 h5 e => by subst h5; exact hno _ rfl hj e.symm, fun _ h4 h5 => by omega⟩)
      simp [fillA, Act.put] at h2
      exact h2
    · (intro L ys w' hB hD hP hn; simp only [LAll, Region.binds, forall_const, and_true, true_and] at hP)
      have hno : ∀ v : Value, ys 4 = v → L 4 → v ≠ .pointer (some ⟨w'.heap.size, 0, none⟩) := by
        rintro v rfl hl e
        obtain ⟨g, h1, _, cs, _, h4⟩ := hD.fact 4 hl
        rw [e] at h1
        simp at h1
        subst h1
        simp at h4
      intro K hK
      simp only [fillA]
      go_simp
      have h2 := hK (.pointer (some ⟨w'.heap.size, 0, none⟩)) (w'.alloc (.cells #[.int .i64 0, .int .u8 0, .int .u8 0, .slice none 0 0, .string ⟨#[]⟩, .slice none 0 0] 27)) (hB.alloc _) ⟨_, setY_at ys 5 _, gr_le hB, _, rfl, heap_alloc_new _ _⟩ (fun j _ h => h.gr ((Gr.refl _).alloc _)) (fun j hj => ⟨fun _ h4 h5 => by omega, fun _ h4 h5 e => by subst h4; exact hno _ rfl hj e⟩)
      simp [fillA, Act.put] at h2
      exact h2
    · (intro L ys w' hB hD hP hn; simp only [LAll, Region.binds, forall_const, and_true, true_and] at hP)
      have l0 : L 4 := (by first | exact hP | exact hP.1 | exact hP.2.1 | exact hP.2.2.1 | exact hP.2 | exact hP.2.2)
      obtain ⟨g, f4, hge, cs, hcs, hblk⟩ : ∃ g, ys 4 = .pointer (some ⟨g, 0, none⟩) ∧ wR.heap.size ≤ g ∧ ∃ cs : Array Value, cs.size = 6 ∧ w'.heap[g]? = some (.cells cs 27 (0, 0)) := hD.fact 4 l0
      obtain ⟨pa, pc, da, dc, f1, hO⟩ : ∃ pa pc da dc, ys 1 = .agg #[.int .i64 k1, .int .u8 c1, .int .u8 m1, .slice pa n1 pc, .string s1, .slice da o1 dc] ∧ OTok wR.heap.size w' T1 (.slice pa n1 pc, .slice da o1 dc) := hD.fact 1 (by first | exact hP | exact hP.1 | exact hP.2.1 | exact hP.2.2.1 | exact hP.2 | exact hP.2.2)
      have hs := setRow_heap w' g cs #[.int .i64 k1, .int .u8 c1, .int .u8 m1, .slice pa n1 pc, .string s1, .slice da o1 dc] 27 (0, 0) hblk
      have ho := fun k (hk : k ≠ g) => setRow_other w' g k #[.int .i64 k1, .int .u8 c1, .int .u8 m1, .slice pa n1 pc, .string s1, .slice da o1 dc] hk
      intro K hK
      with_reducible refine wp_store_row 27 (.tmp 7) (.tmp 16) ?ho8 g #[.int .i64 k1, .int .u8 c1, .int .u8 m1, .slice pa n1 pc, .string s1, .slice da o1 dc] ?hx8 ?hy8 27 cs hblk ?hi8 ?hc8 ?h18 ?hh8
      case hc8 => exact hcs
      case ho8 => rfl
      case hx8 => simp [Act.eval, fillA, Act.put, f4]
      case hy8 => simp [Act.eval, fillA, Act.put, f1]
      case hi8 => kernel_rfl
      case h18 => simp [Value.oneCell']
      case hh8 =>
        refine hK undef _ ?_ ⟨g, pa, pc, da, dc, f4, hge, hs, hO.far hblk ho⟩ (fun j hl h => h.set hblk hs rfl ho (fun h => absurd (h ▸ hl) hn) (fun h e => by subst h; have hLo : L 5 := hD.back 7 _ hl rfl ⟨5, .data⟩ (by simp) rfl; exact hD.two 4 5 l0 hLo (by decide) rfl rfl (f4.trans e.symm))) (fun j _ => ⟨fun _ h4 => by omega, fun _ h4 h5 => by omega⟩)
        exact ⟨hB.os, hB.tape, hB.output, by have := hB.size; simpa [World.setRow] using this, fun j hj => by rw [setRow_other _ _ _ _ (by omega)]; exact hB.block j hj⟩
    · (intro L ys w' hB hD hP hn; simp only [LAll, Region.binds, forall_const, and_true, true_and] at hP)
      have l0 : L 5 := (by first | exact hP | exact hP.1 | exact hP.2.1 | exact hP.2.2.1 | exact hP.2 | exact hP.2.2)
      obtain ⟨g, f4, hge, cs, hcs, hblk⟩ : ∃ g, ys 5 = .pointer (some ⟨g, 0, none⟩) ∧ wR.heap.size ≤ g ∧ ∃ cs : Array Value, cs.size = 6 ∧ w'.heap[g]? = some (.cells cs 27 (0, 0)) := hD.fact 5 l0
      obtain ⟨pa, pc, da, dc, f1, hO⟩ : ∃ pa pc da dc, ys 3 = .agg #[.int .i64 k2, .int .u8 c2, .int .u8 m2, .slice pa n2 pc, .string s2, .slice da o2 dc] ∧ OTok wR.heap.size w' T2 (.slice pa n2 pc, .slice da o2 dc) := hD.fact 3 (by first | exact hP | exact hP.1 | exact hP.2.1 | exact hP.2.2.1 | exact hP.2 | exact hP.2.2)
      have hs := setRow_heap w' g cs #[.int .i64 k2, .int .u8 c2, .int .u8 m2, .slice pa n2 pc, .string s2, .slice da o2 dc] 27 (0, 0) hblk
      have ho := fun k (hk : k ≠ g) => setRow_other w' g k #[.int .i64 k2, .int .u8 c2, .int .u8 m2, .slice pa n2 pc, .string s2, .slice da o2 dc] hk
      intro K hK
      with_reducible refine wp_store_row 27 (.tmp 8) (.tmp 18) ?ho8 g #[.int .i64 k2, .int .u8 c2, .int .u8 m2, .slice pa n2 pc, .string s2, .slice da o2 dc] ?hx8 ?hy8 27 cs hblk ?hi8 ?hc8 ?h18 ?hh8
      case hc8 => exact hcs
      case ho8 => rfl
      case hx8 => simp [Act.eval, fillA, Act.put, f4]
      case hy8 => simp [Act.eval, fillA, Act.put, f1]
      case hi8 => kernel_rfl
      case h18 => simp [Value.oneCell']
      case hh8 =>
        refine hK undef _ ?_ ⟨g, pa, pc, da, dc, f4, hge, hs, hO.far hblk ho⟩ (fun j hl h => h.set hblk hs rfl ho (fun h e => by subst h; have hLo : L 4 := hD.back 6 _ hl rfl ⟨4, .data⟩ (by simp) rfl; exact hD.two 4 5 hLo l0 (by decide) rfl rfl (e.trans f4.symm)) (fun h => absurd (h ▸ hl) hn)) (fun j _ => ⟨fun _ h4 => by omega, fun _ h4 h5 => by omega⟩)
        exact ⟨hB.os, hB.tape, hB.output, by have := hB.size; simpa [World.setRow] using this, fun j hj => by rw [setRow_other _ _ _ _ (by omega)]; exact hB.block j hj⟩
  · intro ys w3 hB hF hDD
    obtain ⟨g5, pa1, pc1, da1, dc1, f4, hge5, hblk5, hO1⟩ : ∃ g pa pc da dc, ys 4 = .pointer (some ⟨g, 0, none⟩) ∧ wR.heap.size ≤ g ∧ w3.heap[g]? = some (.cells #[.int .i64 k1, .int .u8 c1, .int .u8 m1, .slice pa n1 pc, .string s1, .slice da o1 dc] 27 (0, 0)) ∧ OTok wR.heap.size w3 T1 (.slice pa n1 pc, .slice da o1 dc) := hF 6 (by decide)
    obtain ⟨g6, pa2, pc2, da2, dc2, f5, hge6, hblk6, hO2⟩ : ∃ g pa pc da dc, ys 5 = .pointer (some ⟨g, 0, none⟩) ∧ wR.heap.size ≤ g ∧ w3.heap[g]? = some (.cells #[.int .i64 k2, .int .u8 c2, .int .u8 m2, .slice pa n2 pc, .string s2, .slice da o2 dc] 27 (0, 0)) ∧ OTok wR.heap.size w3 T2 (.slice pa n2 pc, .slice da o2 dc) := hF 7 (by decide)
    have hne : g5 ≠ g6 := fun e => hDD 4 5 (by decide) (by decide) rfl rfl (by rw [f4, f5, e])
    clear hF hDD
    simp only [fillA, f4, f5, Act.put, Nat.zero_add, List.setIfInBounds_toArray, List.set_cons_zero, List.set_cons_succ]
    clear f4 f5
    have hg3R := hB
    have hgw3 := hgR.trans hB
    have hR1 := hO1.r
    have hR2 := hO2.r
    have hps := fun (W : World) (hg : Gr w3 W) => psame_any (c1 := pc1) (c2 := dc1) (d1 := pc2) (d2 := dc2) K1.range K2.range (RdTok.of_r (hR1.gr hg) K1.len1 K1.len2 K1.small) (RdTok.of_r (hR2.gr hg) K2.len1 K2.len2 K2.small)
    have hrs := fun (W : World) (hg : Gr w3 W) => rsame_any (c1 := d1) (c2 := e1) (d1 := d2) (d2 := e2) K1.range K2.range (K1.here.gr (hgw3.trans hg)) (K2.here.gr (hgw3.trans hg))
    have hss := fun (W : World) (hg : Gr w3 W) (pa : Option Addr) (pc : Nat) (da : Option Addr) (dc : Nat) (hq : RTok W T1 (.slice pa n1 pc, .slice da o1 dc)) => psame_any (c1 := pc1) (c2 := dc1) (d1 := pc) (d2 := dc) K1.range K1.range (RdTok.of_r (hR1.gr hg) K1.len1 K1.len2 K1.small) (RdTok.of_r hq K1.len1 K1.len2 K1.small)
    have how := fun (W : World) (hg : Gr w3 W) => K1.own W (hgw3.trans hg)
    rw [P1.out.1, P1.out.2.1, P1.out.2.2.1, P1.out.2.2.2.1, P2.out.1, P2.out.2.1, P2.out.2.2.1, P2.out.2.2.2.1] at hps hrs
    rw [P1.out.1, P1.out.2.1, P1.out.2.2.1, P1.out.2.2.2.1, (sameT_iff T1 T1).2 rfl] at hss
    obtain ⟨Z, hZ⟩ : ∃ Z, Z = sameT T1 T2 := ⟨_, rfl⟩
    rw [← hZ] at hps hrs
    have HZ := Lib.hid hZ
    have HX := Lib.hid (fun (w9 : World) (hg : Gr w3 w9) => cells6 (hg.blk hblk5))
    have HY := Lib.hid (fun (w9 : World) (hg : Gr w3 w9) => cells6 (hg.blk hblk6))
    have HPS := Lib.hid hps
    have HRS := Lib.hid hrs
    have HSS := Lib.hid hss
    have HOW := Lib.hid how
    have HR1 := Lib.hid hR1
    have HR2 := Lib.hid hR2
    clear hps hrs hss how hblk5 hblk6 hO1 hO2 hR1 hR2 hB hZ
    go_upto_region 4 with (fail)
    refine wp_region_facts6 (unF w.heap.size k1 c1 m1 s1 n1 o1 k2 c2 m2 s2 n2 o2 a1 b1 a2 b2 pa1 da1 pa2 da2 d1 e1 d2 e2 pc1 dc1 pc2 dc2 Z w3.heap.size T1) (Gr w3) (by kernel_rfl) (by kernel_rfl) (by kernel_rfl) ((Gr.refl _).drew) ?_ ?_
    · intro hap
      refine Steps.cons1 1 rfl rfl ?_ (Steps.cons1 2 rfl rfl ?_ (Steps.cons1 3 rfl rfl ?_ (Steps.cons1 4 rfl rfl ?_ (Steps.cons1 5 rfl rfl ?_ (Steps.cons1 6 rfl rfl ?_ (Steps.cons1 7 rfl rfl ?_ (Steps.cons1 8 rfl rfl ?_ (Steps.consY 9 rfl 7 false rfl hap (by kernel_rfl) ?_ ?_ (Steps.consY 10 rfl 7 false rfl hap (by kernel_rfl) ?_ ?_ (Steps.consY 11 rfl 7 false rfl hap (by kernel_rfl) ?_ ?_ (Steps.consY 12 rfl 7 false rfl hap (by kernel_rfl) ?_ ?_ (Steps.consY 13 rfl 7 false rfl hap (by kernel_rfl) ?_ ?_ (Steps.cons1 14 rfl rfl ?_ (Steps.nil))))))))))))))
      · (intro ys w' hB hP; simp only [Preds, Region.binds, unF, forall_const, and_true, true_and] at hP)
        obtain ⟨q0, q1, q2, q3, q4, q5, qf⟩ := HX.out _ hB
        intro K hK
        simp only [fillA]
        go_simp
        have h2 := hK _ w' hB rfl (fun j u _ h => h)
        simp [fillA, Act.put, hP] at h2
        exact h2
      · (intro ys w' hB hP; simp only [Preds, Region.binds, unF, forall_const, and_true, true_and] at hP)
        obtain ⟨q0, q1, q2, q3, q4, q5, qf⟩ := HY.out _ hB
        intro K hK
        simp only [fillA]
        go_simp
        have h2 := hK _ w' hB rfl (fun j u _ h => h)
        simp [fillA, Act.put, hP] at h2
        exact h2
      · (intro ys w' hB hP; simp only [Preds, Region.binds, unF, forall_const, and_true, true_and] at hP)
        intro K hK
        simp only [fillA]
        go_simp
        (with_reducible refine (HPS.out _ hB).mono ?_)
        rintro e w10 ⟨rfl, hg10⟩
        have h2 := hK _ w10 (hB.trans hg10) rfl (fun j u _ h => h.gr hg10)
        simp [fillA, Act.put, hP] at h2
        exact h2
      · (intro ys w' hB hP; simp only [Preds, Region.binds, unF, forall_const, and_true, true_and] at hP)
        obtain ⟨q0, q1, q2, q3, q4, q5, qf⟩ := HS1.out _ (hg3R.trans hB)
        intro K hK
        simp only [fillA]
        go_simp
        have h2 := hK _ w' hB rfl (fun j u _ h => h)
        simp [fillA, Act.put, hP] at h2
        exact h2
      · (intro ys w' hB hP; simp only [Preds, Region.binds, unF, forall_const, and_true, true_and] at hP)
        obtain ⟨q0, q1, q2, q3, q4, q5, qf⟩ := HS2.out _ (hg3R.trans hB)
        intro K hK
        simp only [fillA]
        go_simp
        have h2 := hK _ w' hB rfl (fun j u _ h => h)
        simp [fillA, Act.put, hP] at h2
        exact h2
      · (intro ys w' hB hP; simp only [Preds, Region.binds, unF, forall_const, and_true, true_and] at hP)
        intro K hK
        simp only [fillA]
        go_simp
        (with_reducible refine (HRS.out _ hB).mono ?_)
        rintro e w10 ⟨rfl, hg10⟩
        have h2 := hK _ w10 (hB.trans hg10) rfl (fun j u _ h => h.gr hg10)
        simp [fillA, Act.put, hP] at h2
        exact h2
      · (intro ys w' hB hP K hK; simp only [Preds, Region.binds, unF, forall_const, and_true, true_and] at hP; simp only [fillA]; go_simp; (have h2 := fun v => hK v w' hB); simp only [unF, forall_eq] at h2; (have h2 := h2 (fun _ _ _ h => h)); simp [fillA, Act.put, hP] at h2; exact h2)
      · (intro ys w' hB hP K hK; simp only [Preds, Region.binds, unF, forall_const, and_true, true_and] at hP; simp only [fillA]; go_simp; (have h2 := fun v => hK v w' hB); simp only [unF, forall_eq] at h2; (have h2 := h2 (fun _ _ _ h => h)); simp [fillA, Act.put, hP] at h2; exact h2)
      · (intro ys w' hB hP; simp only [Preds, Region.binds, unF, forall_const, and_true, true_and] at hP; simp [hP])
      · (intro ys w' hB hP; simp only [Preds, Region.binds, unF, forall_const, and_true, true_and] at hP)
        obtain ⟨q0, q1, q2, q3, q4, q5, qf⟩ := HX.out _ hB
        intro K hK
        simp only [fillA]
        go_simp
        have h2 := hK _ w' hB rfl (fun j u _ h => h)
        simp [fillA, Act.put, hP] at h2
        exact h2
      · (intro ys w' hB hP; simp only [Preds, Region.binds, unF, forall_const, and_true, true_and] at hP; simp [hP])
      · (intro ys w' hB hP; simp only [Preds, Region.binds, unF, forall_const, and_true, true_and] at hP)
        obtain ⟨q0, q1, q2, q3, q4, q5, qf⟩ := HS1.out _ (hg3R.trans hB)
        intro K hK
        simp only [fillA]
        go_simp
        have h2 := hK _ w' hB rfl (fun j u _ h => h)
        simp [fillA, Act.put, hP] at h2
        exact h2
      · (intro ys w' hB hP; simp only [Preds, Region.binds, unF, forall_const, and_true, true_and] at hP; simp [hP])
      · (intro ys w' hB hP; simp only [Preds, Region.binds, unF, forall_const, and_true, true_and] at hP)
        have f9 : ys 9 = .agg #[.int .i64 k1, .int .u8 c1, .int .u8 m1, .slice a1 n1 d1, .string s1, .slice b1 o1 e1] := by first | exact hP | exact hP.1 | exact hP.2 | exact hP.2.1
        have f7 : ys 7 = .bool false := by first | exact hP | exact hP.1 | exact hP.2 | exact hP.2.1
        clear hP
        have hz := gr_le hB
        intro K hK
        simp only [fillA]
        go_simp
        (with_reducible refine (HOW.out _ hB).mono ?_)
        rintro e w10 ⟨pa, pc, da, dc, rfl, hO, hg10⟩
        have h2 := hK (.agg #[.int .i64 k1, .int .u8 c1, .int .u8 m1, .slice pa n1 pc, .string s1, .slice da o1 dc]) w10 (hB.trans hg10) ⟨pa, pc, da, dc, rfl, hO.mono hz⟩ (fun j u _ h => h.gr hg10)
        simp [fillA, Act.put, f9, f7] at h2
        exact h2
      · (intro ys w' hB hP; simp only [Preds, Region.binds, unF, forall_const, and_true, true_and] at hP; simp [hP])
      · (intro ys w' hB hP; simp only [Preds, Region.binds, unF, forall_const, and_true, true_and] at hP)
        obtain ⟨pa, pc, da, dc, f10, hO⟩ : ∃ pa pc da dc, ys 10 = .agg #[.int .i64 k1, .int .u8 c1, .int .u8 m1, .slice pa n1 pc, .string s1, .slice da o1 dc] ∧ OTok w3.heap.size w' T1 (.slice pa n1 pc, .slice da o1 dc) := by first | exact hP | exact hP.1 | exact hP.2 | exact hP.2.1
        have f8 : ys 8 = .agg #[.int .i64 k1, .int .u8 c1, .int .u8 m1, .slice pa1 n1 pc1, .string s1, .slice da1 o1 dc1] := by first | exact hP | exact hP.1 | exact hP.2 | exact hP.2.1
        have f7 : ys 7 = .bool false := by first | exact hP | exact hP.1 | exact hP.2 | exact hP.2.1 | exact hP.2.2 | exact hP.2.2.1 | exact hP.2.2.2
        clear hP
        intro K hK
        simp only [fillA]
        go_simp
        (with_reducible refine (HSS.out _ hB pa pc da dc hO.r).mono ?_)
        rintro e w10 ⟨rfl, hg10⟩
        have h2 := hK _ w10 (hB.trans hg10) rfl (fun j u _ h => h.gr hg10)
        simp [fillA, Act.put, f8, f10, f7] at h2
        exact h2
      · (intro ys w' hB hP; simp only [Preds, Region.binds, unF, forall_const, and_true, true_and] at hP; simp [hP])
      · (intro ys w' hB hP K hK; simp only [Preds, Region.binds, unF, forall_const, and_true, true_and] at hP; simp only [fillA]; go_simp; (have h2 := fun v => hK v w' hB); simp only [unF, forall_eq] at h2; (have h2 := h2 (fun _ _ _ h => h)); simp [fillA, Act.put, hP] at h2; exact h2)
      · (intro ys w' hB hP K hK; simp only [Preds, Region.binds, unF, forall_const, and_true, true_and] at hP; simp only [fillA]; go_simp; (have h2 := fun v => hK v w' hB); simp only [unF, forall_eq] at h2; (have h2 := h2 (fun _ _ _ h => h)); simp [fillA, Act.put, hP] at h2; exact h2)
    · intro ys w5 hB hF
      have f13 : ys 13 = .bool false := hF 13 (by decide)
      clear hF
      simp only [fillA, f13, Act.put, Nat.zero_add, List.setIfInBounds_toArray, List.set_cons_zero, List.set_cons_succ]
      clear f13
      have hg5 := hgw3.trans hB
      obtain ⟨x0, x1, x2, x3, x4, x5, xf⟩ := HS1.out _ (hg3R.trans hB)
      obtain ⟨y0, y1, y2, y3, y4, y5, yf⟩ := HS2.out _ (hg3R.trans hB)
      by_cases hr1 : r1 = 0
      case neg =>
        have q1 : (r1 != 0) = true := by simpa using hr1
        go_wp2_with (go_at_call 11; (with_reducible refine (K1.rcheck _ hg5).mono ?_); rintro e w6 ⟨rfl, hg6⟩)
        go_ret
        exact ⟨rfl, hg5.trans hg6⟩
      subst hr1
      by_cases hr2 : r2 = 0
      case neg =>
        have q1 : (r2 != 0) = true := by simpa using hr2
        go_wp2_with (go_at_call 11; (first
          | ((with_reducible refine (K1.rcheck _ hg5).mono ?_); rintro e w6 ⟨rfl, hg6⟩; obtain ⟨z0, z1, z2, z3, z4, z5, zf⟩ := HS2.out w6 ((hg3R.trans hB).trans hg6))
          | ((with_reducible refine (K2.rcheck _ (hg5.trans hg6)).mono ?_); rintro e w7 ⟨rfl, hg7⟩)))
        go_ret
        exact ⟨rfl, (hg5.trans hg6).trans hg7⟩
      subst hr2
      have hcn1 := Lib.hid (check_zero K1.range (by rw [← P1.out.2.2.2.2]))
      have hcn2 := Lib.hid (check_zero K2.range (by rw [← P2.out.2.2.2.2]))
      go_upto_region 10 with (first
        | (go_at_call 11; (first
          | ((with_reducible refine (K1.rcheck _ hg5).mono ?_); rintro e w6 ⟨rfl, hg6⟩; obtain ⟨z0, z1, z2, z3, z4, z5, zf⟩ := HS2.out w6 ((hg3R.trans hB).trans hg6))
          | ((with_reducible refine (K2.rcheck _ (hg5.trans hg6)).mono ?_); rintro e w7 ⟨rfl, hg7⟩; have hg37 := (hB.trans hg6).trans hg7; obtain ⟨u0, u1, u2, u3, u4, u5, uf⟩ := HX.out w7 hg37)))
        | (go_at_call 14; (first
          | ((with_reducible refine (K1.bytes _ _ _ _ _ (HR1.out.gr hg37) (hgw3.trans hg37) _).mono ?_); rintro e w8 ⟨va1, nv1, vc1, rfl, hrow1, hg8⟩; rw [if_pos rfl] at hrow1; have hg38 := hg37.trans hg8; obtain ⟨v0, v1, v2, v3, v4, v5, vf⟩ := HY.out w8 hg38)
          | ((with_reducible refine (K2.bytes _ _ _ _ _ (HR2.out.gr hg38) (hgw3.trans hg38) _).mono ?_); rintro e w9 ⟨va2, nv2, vc2, rfl, hrow2, hg9⟩; rw [if_pos rfl] at hrow2; have hg39 := hg38.trans hg9))))
      have hrow1 := hrow1.gr hg9
      have hcv1 := fun (W : World) (hg : Gr w9 W) => conv_row (hrow1.gr hg)
      have hcv2 := fun (W : World) (hg : Gr w9 W) => conv_row (hrow2.gr hg)
      clear x0 x1 x2 x3 x4 x5 xf y0 y1 y2 y3 y4 y5 yf z0 z1 z2 z3 z4 z5 zf u0 u1 u2 u3 u4 u5 uf v0 v1 v2 v3 v4 v5 vf hrow1 hrow2 hg5 hg6 hg7 hg8 hg9 hg37 hg38 hT hb1 hb2
      have hin1 := Lib.hid (bytes_in K1.range hcn1.out eight)
      have hin2 := Lib.hid (bytes_in K2.range hcn2.out eight)
      clear K1 K2 HR1 HR2 HSS HOW HPS
      cases Z with
      | true =>
        have hTT := (sameT_iff T1 T2).1 HZ.out.symm
        have hX12 : strOf (bytesR T1 eight) = strOf (bytesR T2 eight) := by rw [hTT]
        obtain ⟨X1, hX1⟩ : ∃ X, X = strOf (bytesR T2 eight) := ⟨_, rfl⟩
        rw [hX12, ← hX1] at hcv1
        rw [← hX1] at hcv2
        have HC1 := Lib.hid hcv1
        have HC2 := Lib.hid hcv2
        clear hcv1 hcv2 hX1 hX12 hTT
        refine wp_region_facts6 (unA k1 c1 m1 s1 n1 o1 k2 c2 m2 s2 n2 o2 a1 b1 a2 b2 va1 va2 d1 e1 d2 e2 nv1 vc1 nv2 vc2 X1 X1) (Gr w9) (by kernel_rfl) (by kernel_rfl) (by kernel_rfl) ((Gr.refl _).drew) ?_ ?_
        · intro hap
          refine Steps.cons1 1 rfl rfl ?_ (Steps.cons1 2 rfl rfl ?_ (Steps.cons1 3 rfl rfl ?_ (Steps.consY 4 rfl 2 true rfl hap (by kernel_rfl) ?_ ?_ (Steps.consY 5 rfl 2 true rfl hap (by kernel_rfl) ?_ ?_ (Steps.cons1 6 rfl rfl ?_ (Steps.cons1 7 rfl rfl ?_ (Steps.consY 8 rfl 6 true rfl hap (by kernel_rfl) ?_ ?_ (Steps.consY 9 rfl 6 true rfl hap (by kernel_rfl) ?_ ?_ (Steps.consY 10 rfl 6 true rfl hap (by kernel_rfl) ?_ ?_ (Steps.consY 11 rfl 6 true rfl hap (by kernel_rfl) ?_ ?_ (Steps.consY 12 rfl 6 true rfl hap (by kernel_rfl) ?_ ?_ (Steps.consY 13 rfl 6 true rfl hap (by kernel_rfl) ?_ ?_ (Steps.consY 14 rfl 6 true rfl hap (by kernel_rfl) ?_ ?_ (Steps.consY 15 rfl 6 true rfl hap (by kernel_rfl) ?_ ?_ (Steps.consY 16 rfl 6 true rfl hap (by kernel_rfl) ?_ ?_ (Steps.cons1 17 rfl rfl ?_ (Steps.cons1 18 rfl rfl ?_ (Steps.nil))))))))))))))))))
          · (intro ys w' hB hP K hK; simp only [Preds, Region.binds, unA, forall_const, and_true, true_and] at hP; simp only [fillA]; go_simp; (have h2 := fun v => hK v w' hB); simp only [unA, forall_eq] at h2; (have h2 := h2 (fun _ _ _ h => h)); simp [fillA, Act.put, hP] at h2; exact h2)
          · (intro ys w' hB hP K hK; simp only [Preds, Region.binds, unA, forall_const, and_true, true_and] at hP; simp only [fillA]; go_simp; (have h2 := fun v => hK v w' hB); simp only [unA, forall_eq] at h2; (have h2 := h2 (fun _ _ _ h => h)); simp [fillA, Act.put, hP] at h2; exact h2)
          · (intro ys w' hB hP K hK; simp only [Preds, Region.binds, unA, forall_const, and_true, true_and] at hP; simp only [fillA]; go_simp; (have h2 := fun v => hK v w' hB); simp only [unA, forall_eq] at h2; (have h2 := h2 (fun _ _ _ h => h)); simp [fillA, Act.put, hP] at h2; exact h2)
          · (intro ys w' hB hP; simp only [Preds, Region.binds, unA, forall_const, and_true, true_and] at hP; simp [hP])
          · (intro ys w' hB hP K hK; simp only [Preds, Region.binds, unA, forall_const, and_true, true_and] at hP; simp only [fillA]; go_simp; (have h2 := fun v => hK v w' hB); simp only [unA, forall_eq] at h2; (have h2 := h2 (fun _ _ _ h => h)); simp [fillA, Act.put, hP] at h2; exact h2)
          · (intro ys w' hB hP; simp only [Preds, Region.binds, unA, forall_const, and_true, true_and] at hP; simp [hP])
          · (intro ys w' hB hP K hK; simp only [Preds, Region.binds, unA, forall_const, and_true, true_and] at hP; simp only [fillA]; go_simp; (have h2 := fun v => hK v w' hB); simp only [unA, forall_eq] at h2; (have h2 := h2 (fun _ _ _ h => h)); simp [fillA, Act.put, hP] at h2; exact h2)
          · (intro ys w' hB hP K hK; simp only [Preds, Region.binds, unA, forall_const, and_true, true_and] at hP; simp only [fillA]; go_simp; (have h2 := fun v => hK v w' hB); simp only [unA, forall_eq] at h2; (have h2 := h2 (fun _ _ _ h => h)); simp [fillA, Act.put, hP] at h2; exact h2)
          · (intro ys w' hB hP K hK; simp only [Preds, Region.binds, unA, forall_const, and_true, true_and] at hP; simp only [fillA]; go_simp; (have h2 := fun v => hK v w' hB); simp only [unA, forall_eq] at h2; (have h2 := h2 (fun _ _ _ h => h)); simp [fillA, Act.put, hP] at h2; exact h2)
          · (intro ys w' hB hP; simp only [Preds, Region.binds, unA, forall_const, and_true, true_and] at hP; simp [hP])
          · (intro ys w' hB hP K hK; simp only [Preds, Region.binds, unA, forall_const, and_true, true_and] at hP; simp only [fillA]; go_simp; (have h2 := fun v => hK v w' hB); simp only [unA, forall_eq] at h2; (have h2 := h2 (fun _ _ _ h => h)); simp [fillA, Act.put, hP] at h2; exact h2)
          · (intro ys w' hB hP; simp only [Preds, Region.binds, unA, forall_const, and_true, true_and] at hP; simp [hP])
          · (intro ys w' hB hP; simp only [Preds, Region.binds, unA, forall_const, and_true, true_and] at hP)
            have hcv := HC1.out _ hB
            intro K hK
            simp only [fillA]
            go_simp
            have h2 := hK _ w' hB rfl (fun j u _ h => h)
            simp [fillA, Act.put, hP] at h2
            exact h2
          · (intro ys w' hB hP; simp only [Preds, Region.binds, unA, forall_const, and_true, true_and] at hP; simp [hP])
          · (intro ys w' hB hP K hK; simp only [Preds, Region.binds, unA, forall_const, and_true, true_and] at hP; simp only [fillA]; go_simp; (have h2 := fun v => hK v w' hB); simp only [unA, forall_eq] at h2; (have h2 := h2 (fun _ _ _ h => h)); simp [fillA, Act.put, hP] at h2; exact h2)
          · (intro ys w' hB hP; simp only [Preds, Region.binds, unA, forall_const, and_true, true_and] at hP; simp [hP])
          · (intro ys w' hB hP; simp only [Preds, Region.binds, unA, forall_const, and_true, true_and] at hP)
            have hcv := HC2.out _ hB
            intro K hK
            simp only [fillA]
            go_simp
            have h2 := hK _ w' hB rfl (fun j u _ h => h)
            simp [fillA, Act.put, hP] at h2
            exact h2
          · (intro ys w' hB hP; simp only [Preds, Region.binds, unA, forall_const, and_true, true_and] at hP; simp [hP])
          · (intro ys w' hB hP K hK; simp only [Preds, Region.binds, unA, forall_const, and_true, true_and] at hP; simp only [fillA]; go_simp; (have h2 := fun v => hK v w' hB); simp only [unA, forall_eq] at h2; (have h2 := h2 (fun _ _ _ h => h)); simp [fillA, Act.put, hP] at h2; exact h2)
          · (intro ys w' hB hP; simp only [Preds, Region.binds, unA, forall_const, and_true, true_and] at hP; simp [hP])
          · (intro ys w' hB hP; simp only [Preds, Region.binds, unA, forall_const, and_true, true_and] at hP)
            obtain ⟨q0, q1, q2, q3, q4, q5, qf⟩ := HS1.out _ (hg3R.trans (hg39.trans hB))
            intro K hK
            simp only [fillA]
            go_simp
            have h2 := hK _ w' hB rfl (fun j u _ h => h)
            simp [fillA, Act.put, hP] at h2
            exact h2
          · (intro ys w' hB hP; simp only [Preds, Region.binds, unA, forall_const, and_true, true_and] at hP; simp [hP])
          · (intro ys w' hB hP; simp only [Preds, Region.binds, unA, forall_const, and_true, true_and] at hP)
            obtain ⟨q0, q1, q2, q3, q4, q5, qf⟩ := HS2.out _ (hg3R.trans (hg39.trans hB))
            intro K hK
            simp only [fillA]
            go_simp
            have h2 := hK _ w' hB rfl (fun j u _ h => h)
            simp [fillA, Act.put, hP] at h2
            exact h2
          · (intro ys w' hB hP; simp only [Preds, Region.binds, unA, forall_const, and_true, true_and] at hP; simp [hP])
          · (intro ys w' hB hP; simp only [Preds, Region.binds, unA, forall_const, and_true, true_and] at hP)
            intro K hK
            simp only [fillA]
            go_simp
            (with_reducible refine (HRS.out _ (hg39.trans hB)).mono ?_)
            rintro e w10 ⟨rfl, hg10⟩
            have h2 := hK _ w10 (hB.trans hg10) rfl (fun j u _ h => h.gr hg10)
            simp [fillA, Act.put, hP] at h2
            exact h2
          · (intro ys w' hB hP; simp only [Preds, Region.binds, unA, forall_const, and_true, true_and] at hP; simp [hP])
          · (intro ys w' hB hP K hK; simp only [Preds, Region.binds, unA, forall_const, and_true, true_and] at hP; simp only [fillA]; go_simp; (have h2 := fun v => hK v w' hB); simp only [unA, forall_eq] at h2; (have h2 := h2 (fun _ _ _ h => h)); simp [fillA, Act.put, hP] at h2; exact h2)
          · (intro ys w' hB hP K hK; simp only [Preds, Region.binds, unA, forall_const, and_true, true_and] at hP; simp only [fillA]; go_simp; (have h2 := fun v => hK v w' hB); simp only [unA, forall_eq] at h2; (have h2 := h2 (fun _ _ _ h => h)); simp [fillA, Act.put, hP] at h2; exact h2)
          · (intro ys w' hB hP K hK; simp only [Preds, Region.binds, unA, forall_const, and_true, true_and] at hP; simp only [fillA]; go_simp; (have h2 := fun v => hK v w' hB); simp only [unA, forall_eq] at h2; (have h2 := h2 (fun _ _ _ h => h)); simp [fillA, Act.put, hP] at h2; exact h2)
        · intro ys w10 hB2 hF
          have f17 : ys 17 = .bool true := hF 17 (by decide)
          clear hF
          simp only [fillA, f17, Act.put, Nat.zero_add, List.setIfInBounds_toArray, List.set_cons_zero, List.set_cons_succ]
          clear f17
          go_wp2_with fail
          go_ret
          exact ⟨rfl, hgw3.trans (hg39.trans hB2)⟩
      | false =>
        have hTT : ¬ bytesR T1 eight = bytesR T2 eight := fun e => by
          have h1 := bytes_inj' hcn1.out hcn2.out eight e
          have h2 := (sameT_iff T1 T2).2 h1
          rw [← HZ.out] at h2
          cases h2
        obtain ⟨p1, p2⟩ := str_ne hin1.out hin2.out hTT
        obtain ⟨X1, hX1⟩ : ∃ X, X = strOf (bytesR T1 eight) := ⟨_, rfl⟩
        obtain ⟨X2, hX2⟩ : ∃ X, X = strOf (bytesR T2 eight) := ⟨_, rfl⟩
        rw [← hX1] at hcv1 p1 p2
        rw [← hX2] at hcv2 p1 p2
        have HC1 := Lib.hid hcv1
        have HC2 := Lib.hid hcv2
        clear hcv1 hcv2 hX1 hX2 hTT
        refine wp_region_facts6 (unB k1 c1 m1 s1 n1 o1 k2 c2 m2 s2 n2 o2 a1 b1 a2 b2 va1 va2 d1 e1 d2 e2 nv1 vc1 nv2 vc2 X1 X2) (Gr w9) (by kernel_rfl) (by kernel_rfl) (by kernel_rfl) ((Gr.refl _).drew) ?_ ?_
        · intro hap
          refine Steps.cons1 1 rfl rfl ?_ (Steps.cons1 2 rfl rfl ?_ (Steps.cons1 3 rfl rfl ?_ (Steps.consY 4 rfl 2 true rfl hap (by kernel_rfl) ?_ ?_ (Steps.consY 5 rfl 2 true rfl hap (by kernel_rfl) ?_ ?_ (Steps.cons1 6 rfl rfl ?_ (Steps.cons1 7 rfl rfl ?_ (Steps.consY 8 rfl 6 true rfl hap (by kernel_rfl) ?_ ?_ (Steps.consY 9 rfl 6 true rfl hap (by kernel_rfl) ?_ ?_ (Steps.consY 10 rfl 6 true rfl hap (by kernel_rfl) ?_ ?_ (Steps.consY 11 rfl 6 true rfl hap (by kernel_rfl) ?_ ?_ (Steps.consY 12 rfl 6 true rfl hap (by kernel_rfl) ?_ ?_ (Steps.consY 13 rfl 6 true rfl hap (by kernel_rfl) ?_ ?_ (Steps.consY 14 rfl 6 true rfl hap (by kernel_rfl) ?_ ?_ (Steps.consY 15 rfl 6 true rfl hap (by kernel_rfl) ?_ ?_ (Steps.consY 16 rfl 6 true rfl hap (by kernel_rfl) ?_ ?_ (Steps.cons1 17 rfl rfl ?_ (Steps.cons1 18 rfl rfl ?_ (Steps.nil))))))))))))))))))
          · (intro ys w' hB hP K hK; simp only [Preds, Region.binds, unB, forall_const, and_true, true_and] at hP; simp only [fillA]; go_simp; (have h2 := fun v => hK v w' hB); simp only [unB, forall_eq] at h2; (have h2 := h2 (fun _ _ _ h => h)); simp [fillA, Act.put, hP] at h2; exact h2)
          · (intro ys w' hB hP K hK; simp only [Preds, Region.binds, unB, forall_const, and_true, true_and] at hP; simp only [fillA]; go_simp; (have h2 := fun v => hK v w' hB); simp only [unB, forall_eq] at h2; (have h2 := h2 (fun _ _ _ h => h)); simp [fillA, Act.put, hP] at h2; exact h2)
          · (intro ys w' hB hP K hK; simp only [Preds, Region.binds, unB, forall_const, and_true, true_and] at hP; simp only [fillA]; go_simp; (have h2 := fun v => hK v w' hB); simp only [unB, forall_eq] at h2; (have h2 := h2 (fun _ _ _ h => h)); simp [fillA, Act.put, hP] at h2; exact h2)
          · (intro ys w' hB hP; simp only [Preds, Region.binds, unB, forall_const, and_true, true_and] at hP; simp [hP])
          · (intro ys w' hB hP K hK; simp only [Preds, Region.binds, unB, forall_const, and_true, true_and] at hP; simp only [fillA]; go_simp; (have h2 := fun v => hK v w' hB); simp only [unB, forall_eq] at h2; (have h2 := h2 (fun _ _ _ h => h)); simp [fillA, Act.put, hP] at h2; exact h2)
          · (intro ys w' hB hP; simp only [Preds, Region.binds, unB, forall_const, and_true, true_and] at hP; simp [hP])
          · (intro ys w' hB hP K hK; simp only [Preds, Region.binds, unB, forall_const, and_true, true_and] at hP; simp only [fillA]; go_simp; (have h2 := fun v => hK v w' hB); simp only [unB, forall_eq] at h2; (have h2 := h2 (fun _ _ _ h => h)); simp [fillA, Act.put, hP] at h2; exact h2)
          · (intro ys w' hB hP K hK; simp only [Preds, Region.binds, unB, forall_const, and_true, true_and] at hP; simp only [fillA]; go_simp; (have h2 := fun v => hK v w' hB); simp only [unB, forall_eq] at h2; (have h2 := h2 (fun _ _ _ h => h)); simp [fillA, Act.put, hP] at h2; exact h2)
          · (intro ys w' hB hP K hK; simp only [Preds, Region.binds, unB, forall_const, and_true, true_and] at hP; simp only [fillA]; go_simp; (have h2 := fun v => hK v w' hB); simp only [unB, forall_eq] at h2; (have h2 := h2 (fun _ _ _ h => h)); simp [fillA, Act.put, hP] at h2; exact h2)
          · (intro ys w' hB hP; simp only [Preds, Region.binds, unB, forall_const, and_true, true_and] at hP; simp [hP])
          · (intro ys w' hB hP K hK; simp only [Preds, Region.binds, unB, forall_const, and_true, true_and] at hP; simp only [fillA]; go_simp; (have h2 := fun v => hK v w' hB); simp only [unB, forall_eq] at h2; (have h2 := h2 (fun _ _ _ h => h)); simp [fillA, Act.put, hP] at h2; exact h2)
          · (intro ys w' hB hP; simp only [Preds, Region.binds, unB, forall_const, and_true, true_and] at hP; simp [hP])
          · (intro ys w' hB hP; simp only [Preds, Region.binds, unB, forall_const, and_true, true_and] at hP)
            have hcv := HC1.out _ hB
            intro K hK
            simp only [fillA]
            go_simp
            have h2 := hK _ w' hB rfl (fun j u _ h => h)
            simp [fillA, Act.put, hP] at h2
            exact h2
          · (intro ys w' hB hP; simp only [Preds, Region.binds, unB, forall_const, and_true, true_and] at hP; simp [hP])
          · (intro ys w' hB hP K hK; simp only [Preds, Region.binds, unB, forall_const, and_true, true_and] at hP; simp only [fillA]; go_simp; (have h2 := fun v => hK v w' hB); simp only [unB, forall_eq] at h2; (have h2 := h2 (fun _ _ _ h => h)); simp [fillA, Act.put, hP] at h2; exact h2)
          · (intro ys w' hB hP; simp only [Preds, Region.binds, unB, forall_const, and_true, true_and] at hP; simp [hP])
          · (intro ys w' hB hP; simp only [Preds, Region.binds, unB, forall_const, and_true, true_and] at hP)
            have hcv := HC2.out _ hB
            intro K hK
            simp only [fillA]
            go_simp
            have h2 := hK _ w' hB rfl (fun j u _ h => h)
            simp [fillA, Act.put, hP] at h2
            exact h2
          · (intro ys w' hB hP; simp only [Preds, Region.binds, unB, forall_const, and_true, true_and] at hP; simp [hP])
          · (intro ys w' hB hP K hK; simp only [Preds, Region.binds, unB, forall_const, and_true, true_and] at hP; simp only [fillA]; go_simp; (have h2 := fun v => hK v w' hB); simp only [unB, forall_eq] at h2; (have h2 := h2 (fun _ _ _ h => h)); simp [fillA, Act.put, hP] at h2; exact h2)
          · (intro ys w' hB hP; simp only [Preds, Region.binds, unB, forall_const, and_true, true_and] at hP; simp [hP])
          · (intro ys w' hB hP; simp only [Preds, Region.binds, unB, forall_const, and_true, true_and] at hP)
            obtain ⟨q0, q1, q2, q3, q4, q5, qf⟩ := HS1.out _ (hg3R.trans (hg39.trans hB))
            intro K hK
            simp only [fillA]
            go_simp
            have h2 := hK _ w' hB rfl (fun j u _ h => h)
            simp [fillA, Act.put, hP] at h2
            exact h2
          · (intro ys w' hB hP; simp only [Preds, Region.binds, unB, forall_const, and_true, true_and] at hP; simp [hP])
          · (intro ys w' hB hP; simp only [Preds, Region.binds, unB, forall_const, and_true, true_and] at hP)
            obtain ⟨q0, q1, q2, q3, q4, q5, qf⟩ := HS2.out _ (hg3R.trans (hg39.trans hB))
            intro K hK
            simp only [fillA]
            go_simp
            have h2 := hK _ w' hB rfl (fun j u _ h => h)
            simp [fillA, Act.put, hP] at h2
            exact h2
          · (intro ys w' hB hP; simp only [Preds, Region.binds, unB, forall_const, and_true, true_and] at hP; simp [hP])
          · (intro ys w' hB hP; simp only [Preds, Region.binds, unB, forall_const, and_true, true_and] at hP)
            intro K hK
            simp only [fillA]
            go_simp
            (with_reducible refine (HRS.out _ (hg39.trans hB)).mono ?_)
            rintro e w10 ⟨rfl, hg10⟩
            have h2 := hK _ w10 (hB.trans hg10) rfl (fun j u _ h => h.gr hg10)
            simp [fillA, Act.put, hP] at h2
            exact h2
          · (intro ys w' hB hP; simp only [Preds, Region.binds, unB, forall_const, and_true, true_and] at hP; simp [hP])
          · (intro ys w' hB hP K hK; simp only [Preds, Region.binds, unB, forall_const, and_true, true_and] at hP; simp only [fillA]; go_simp; (have h2 := fun v => hK v w' hB); simp only [unB, forall_eq] at h2; (have h2 := h2 (fun _ _ _ h => h)); simp [fillA, Act.put, hP] at h2; exact h2)
          · (intro ys w' hB hP K hK; simp only [Preds, Region.binds, unB, forall_const, and_true, true_and] at hP; simp only [fillA]; go_simp; (have h2 := fun v => hK v w' hB); simp only [unB, forall_eq] at h2; (have h2 := h2 (fun _ _ _ h => h)); simp [fillA, Act.put, hP] at h2; exact h2)
          · (intro ys w' hB hP K hK; simp only [Preds, Region.binds, unB, forall_const, and_true, true_and] at hP; simp only [fillA]; go_simp; (have h2 := fun v => hK v w' hB); simp only [unB, forall_eq] at h2; (have h2 := h2 (fun _ _ _ h => h)); simp [fillA, Act.put, hP] at h2; exact h2)
        · intro ys w10 hB2 hF
          have f17 : ys 17 = .bool true := hF 17 (by decide)
          clear hF
          simp only [fillA, f17, Act.put, Nat.zero_add, List.setIfInBounds_toArray, List.set_cons_zero, List.set_cons_succ]
          clear f17
          go_wp2_with fail
          go_ret
          exact ⟨rfl, hgw3.trans (hg39.trans hB2)⟩
end Go.Proofs.YtgbmjlajheeciaaDoor
