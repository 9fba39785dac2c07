/-
  ReplyFunctions: the region that looks at both tokens, by itself, over a frame of letters (gen_ryf.py).
-/
import Derived.Test.YtjfffkaifcajbaaDoorZOrd6
import Derived.Test.YtjfffkaifcajbaaDoorZRyT
namespace Go.Proofs.YtjfffkaifcajbaaDoor
set_option linter.unusedSimpArgs false
set_option linter.unusedVariables false
open Go.RowKit
set_option linter.unusedVariables false

def regionAt (k : Nat) : Code → Option Code
  | .region i ops b => if i == k then some (.region i ops b) else none
  | .loop c => regionAt k c
  | .seq a b => match regionAt k a with
    | some c => some c
    | none => regionAt k b
  | .block _ c => regionAt k c
  | .scope c => regionAt k c
  | .cond _ a b => match regionAt k a with
    | some c => some c
    | none => regionAt k b
  | _ => none
noncomputable def code12 : Code := ((Tryd.f5.body.bind (regionAt 12)).getD .skip)
def rf12 (g cap : Nat) (C Mk : Int) (I : ByteArray) (m : Nat) (p1 : Option Addr) (p1c : Nat) (d1 : Option Addr) (d1c : Nat) (p2 : Option Addr) (p2c : Nat) (d2 : Option Addr) (d2c : Nat) (s : ByteArray) : Nat → Value → World → Prop
  | 0, v, _ => v = .slice (some ⟨g, 0, none⟩) 2 cap
  | 1, v, _ => v = .int .i64 2
  | 2, v, _ => v = .bool true
  | 3, v, _ => v = .bool true
  | 4, v, _ => v = .slice (some ⟨g, 0, none⟩) 2 cap
  | 5, v, _ => v = .pointer (some ⟨g, 0, none⟩)
  | 6, v, _ => v = .pointer (some ⟨g, 0, none⟩)
  | 7, v, _ => v = .int .i64 4
  | 8, v, _ => v = .bool true
  | 9, v, _ => v = .bool true
  | 10, v, _ => v = .bool true
  | 11, v, _ => v = .slice (some ⟨g, 0, none⟩) 2 cap
  | 12, v, _ => v = .pointer (some ⟨g, 0, none⟩)
  | 13, v, _ => v = .agg #[.int .i64 4, .int .u8 C, .int .u8 Mk, .slice p1 m p1c, .string I, .slice d1 0 d1c]
  | 14, v, _ => v = .string s
  | 15, v, _ => v = .string s
  | 16, v, _ => v = .bool true
  | 17, v, _ => v = .bool true
  | 18, v, _ => v = .bool true
  | 19, v, _ => v = .slice (some ⟨g, 0, none⟩) 2 cap
  | 20, v, _ => v = .pointer (some ⟨g, 6, none⟩)
  | 21, v, _ => v = .pointer (some ⟨g, 6, none⟩)
  | 22, v, _ => v = .int .i64 5
  | 23, v, _ => v = .bool true
  | 24, v, _ => v = .bool true
  | 25, v, _ => v = .bool true
  | 26, v, _ => v = .slice (some ⟨g, 0, none⟩) 2 cap
  | 27, v, _ => v = .pointer (some ⟨g, 6, none⟩)
  | 28, v, _ => v = .agg #[.int .i64 5, .int .u8 C, .int .u8 Mk, .slice p2 m p2c, .string I, .slice d2 2 d2c]
  | 29, v, _ => v = .string s
  | 30, v, _ => v = .string s
  | 31, v, _ => v = .bool true
  | 32, v, _ => v = .bool true
  | 33, v, _ => v = .bool true
  | 34, v, _ => v = .slice (some ⟨g, 0, none⟩) 2 cap
  | 35, v, _ => v = .pointer (some ⟨g, 6, none⟩)
  | 36, v, _ => v = .pointer (some ⟨g, 11, none⟩)
  | 37, v, _ => v = .slice d2 2 d2c
  | 38, v, _ => v = .string ⟨#[97, 98]⟩
  | 39, v, _ => v = .bool true
  | 40, v, _ => v = .bool true
  | 41, v, _ => v = .bool true
  | 42, v, _ => v = .slice (some ⟨g, 0, none⟩) 2 cap
  | 43, v, _ => v = .pointer (some ⟨g, 0, none⟩)
  | 44, v, _ => v = .pointer (some ⟨g, 3, none⟩)
  | 45, v, _ => v = .slice p1 m p1c
  | 46, v, _ => v = .slice (some ⟨g, 0, none⟩) 2 cap
  | 47, v, _ => v = .pointer (some ⟨g, 6, none⟩)
  | 48, v, _ => v = .pointer (some ⟨g, 9, none⟩)
  | 49, v, _ => v = .slice p2 m p2c
  | 50, v, _ => v = .bool true
  | 51, v, _ => v = .bool true
  | 52, v, _ => v = .bool true
  | _, _, _ => True
theorem rf12.gr {g cap : Nat} {C Mk : Int} {I : ByteArray} {m : Nat} {p1 : Option Addr} {p1c : Nat} {d1 : Option Addr} {d1c : Nat} {p2 : Option Addr} {p2c : Nat} {d2 : Option Addr} {d2c : Nat} {s : ByteArray} {w1 w2 : World} {j : Nat} {u : Value} (h : rf12 g cap C Mk I m p1 p1c d1 d1c p2 p2c d2 d2c s j u w1) (hg : Gr w1 w2) : rf12 g cap C Mk I m p1 p1c d1 d1c p2 p2c d2 d2c s j u w2 := by
  unfold rf12 at h ⊢
  split <;> first | exact h | skip
  all_goals trivial
set_option maxRecDepth 1000000 in
set_option maxHeartbeats 16000000 in
theorem reg12 (Q : Exit → Act → World → Prop) (g cap : Nat) (C Mk : Int) (I : ByteArray) (m : Nat) (p1 : Option Addr) (p1c : Nat) (d1 : Option Addr) (d1c : Nat) (p2 : Option Addr) (p2c : Nat) (d2 : Option Addr) (d2c : Nat) (s : ByteArray) (w8 : World) (u0 u2 u3 u4 u5 u6 u7 u8 u9 u11 u12 u13 u14 u15 u16 u17 u18 u19 u20 u21 u22 u23 u24 u25 u26 u27 u28 u29 u30 u31 u32 u33 u34 u35 u36 u37 u38 u39 u40 u41 u42 u43 u44 u45 u46 u47 u48 u49 u50 u51 u52 u53 u54 u55 u56 u57 u58 u59 u60 u61 u62 u63 u64 u65 u66 u67 u68 u69 u70 u71 u72 u73 u74 u75 u76 u77 u78 u79 u80 u81 u82 u83 u84 u85 u86 u87 u88 u89 u90 u91 u92 u93 u94 u95 u96 u97 u98 u99 u100 u101 u102 u103 u104 u105 u106 u107 u108 u109 u110 u111 u112 u113 u114 u115 u116 u117 u118 u119 u120 u121 u122 u123 : Value)
    (HTW : Hid (TwoAt w8 g 4 C Mk I (.slice p1 m p1c) (.slice d1 0 d1c) 5 C Mk I (.slice p2 m p2c) (.slice d2 2 d2c)))
    (HI1 : Hid (∀ W, Calls Tryd.prog 30 #[.agg #[.int .i64 4, .int .u8 C, .int .u8 Mk, .slice p1 m p1c, .string I, .slice d1 0 d1c]] W fun e w' => e = .returned (.string s) ∧ Gr W w'))
    (HI2 : Hid (∀ W, Calls Tryd.prog 30 #[.agg #[.int .i64 5, .int .u8 C, .int .u8 Mk, .slice p2 m p2c, .string I, .slice d2 2 d2c]] W fun e w' => e = .returned (.string s) ∧ Gr W w'))
    (HCD : Hid (∀ W, Gr w8 W → (convert 30 9 (.slice d2 2 d2c)).run Tryd.prog W = .ok (.string ⟨#[97, 98]⟩) W))
    (HSM : Hid (∀ W, Gr w8 W → Calls Tryd.prog 28 #[.slice p1 m p1c, .slice p2 m p2c] W fun e w' => e = .returned (.bool true) ∧ Gr W w'))
    (hQ : ∀ (y0 y1 y2 y3 y4 y5 y6 y7 y8 y9 y10 y11 y12 y13 y14 y15 y16 y17 y18 y19 y20 y21 y22 y23 y24 y25 y26 y27 y28 y29 y30 y31 y32 y33 y34 y35 y36 y37 y38 y39 y40 y41 y42 y43 y44 y45 y46 y47 y48 y49 y50 y51 : Value) (w9 : World), Gr w8 w9 → Q .normal ⟨#[u0, .string s, u2, u3, u4, u5, .bool true, u7, u8, u9, .slice (some ⟨g, 0, none⟩) 2 cap, u11, u12, u13, u14, u15, u16, u17, u18, u19, u20, u21, u22, u23, u24, u25, u26, u27, u28, u29, u30, u31, u32, u33, u34, u35, u36, u37, u38, u39, u40, u41, u42, u43, u44, u45, u46, u47, u48, u49, u50, u51, u52, u53, u54, u55, u56, u57, u58, u59, u60, u61, u62, u63, u64, u65, u66, u67, u68, u69, u70, u71, y0, y1, y2, y3, y4, y5, y6, y7, y8, y9, y10, y11, y12, y13, y14, y15, y16, y17, y18, y19, y20, y21, y22, y23, y24, y25, y26, y27, y28, y29, y30, y31, y32, y33, y34, y35, y36, y37, y38, y39, y40, y41, y42, y43, y44, y45, y46, y47, y48, y49, y50, y51], []⟩ w9) : Code.wp Tryd.prog code12 Q ⟨#[u0, .string s, u2, u3, u4, u5, u6, u7, u8, u9, .slice (some ⟨g, 0, none⟩) 2 cap, u11, u12, u13, u14, u15, u16, u17, u18, u19, u20, u21, u22, u23, u24, u25, u26, u27, u28, u29, u30, u31, u32, u33, u34, u35, u36, u37, u38, u39, u40, u41, u42, u43, u44, u45, u46, u47, u48, u49, u50, u51, u52, u53, u54, u55, u56, u57, u58, u59, u60, u61, u62, u63, u64, u65, u66, u67, u68, u69, u70, u71, u72, u73, u74, u75, u76, u77, u78, u79, u80, u81, u82, u83, u84, u85, u86, u87, u88, u89, u90, u91, u92, u93, u94, u95, u96, u97, u98, u99, u100, u101, u102, u103, u104, u105, u106, u107, u108, u109, u110, u111, u112, u113, u114, u115, u116, u117, u118, u119, u120, u121, u122, u123], []⟩ w8 := by
  conv => arg 2; whnf
  refine wp_region_facts6 (rf12 g cap C Mk I m p1 p1c d1 d1c p2 p2c d2 d2c s) (Gr w8) (by kernel_rfl) (by kernel_rfl) (by kernel_rfl) ((Gr.refl _).drew) ?_ ?_
  · intro hap
    refine Steps.cons1 1 rfl rfl ?_ (Steps.cons1 2 rfl rfl ?_ (Steps.cons1 3 rfl rfl ?_ (Steps.cons1 4 rfl rfl ?_ (Steps.consY 5 rfl 3 true rfl hap (by kernel_rfl) ?_ ?_ (Steps.consY 6 rfl 3 true rfl hap (by kernel_rfl) ?_ ?_ (Steps.consY 7 rfl 3 true rfl hap (by kernel_rfl) ?_ ?_ (Steps.consY 8 rfl 3 true rfl hap (by kernel_rfl) ?_ ?_ (Steps.consY 9 rfl 3 true rfl hap (by kernel_rfl) ?_ ?_ (Steps.cons1 10 rfl rfl ?_ (Steps.cons1 11 rfl rfl ?_ (Steps.consY 12 rfl 10 true rfl hap (by kernel_rfl) ?_ ?_ (Steps.consY 13 rfl 10 true rfl hap (by kernel_rfl) ?_ ?_ (Steps.consY 14 rfl 10 true rfl hap (by kernel_rfl) ?_ ?_ (Steps.consY 15 rfl 10 true rfl hap (by kernel_rfl) ?_ ?_ (Steps.consY 16 rfl 10 true rfl hap (by kernel_rfl) ?_ ?_ (Steps.consY 17 rfl 10 true rfl hap (by kernel_rfl) ?_ ?_ (Steps.cons1 18 rfl rfl ?_ (Steps.cons1 19 rfl rfl ?_ (Steps.consY 20 rfl 18 true rfl hap (by kernel_rfl) ?_ ?_ (Steps.consY 21 rfl 18 true rfl hap (by kernel_rfl) ?_ ?_ (Steps.consY 22 rfl 18 true rfl hap (by kernel_rfl) ?_ ?_ (Steps.consY 23 rfl 18 true rfl hap (by kernel_rfl) ?_ ?_ (Steps.consY 24 rfl 18 true rfl hap (by kernel_rfl) ?_ ?_ (Steps.cons1 25 rfl rfl ?_ (Steps.cons1 26 rfl rfl ?_ (Steps.consY 27 rfl 25 true rfl hap (by kernel_rfl) ?_ ?_ (Steps.consY 28 rfl 25 true rfl hap (by kernel_rfl) ?_ ?_ (Steps.consY 29 rfl 25 true rfl hap (by kernel_rfl) ?_ ?_ (Steps.consY 30 rfl 25 true rfl hap (by kernel_rfl) ?_ ?_ (Steps.consY 31 rfl 25 true rfl hap (by kernel_rfl) ?_ ?_ (Steps.consY 32 rfl 25 true rfl hap (by kernel_rfl) ?_ ?_ (Steps.cons1 33 rfl rfl ?_ (Steps.cons1 34 rfl rfl ?_ (Steps.consY 35 rfl 33 true rfl hap (by kernel_rfl) ?_ ?_ (Steps.consY 36 rfl 33 true rfl hap (by kernel_rfl) ?_ ?_ (Steps.consY 37 rfl 33 true rfl hap (by kernel_rfl) ?_ ?_ (Steps.consY 38 rfl 33 true rfl hap (by kernel_rfl) ?_ ?_ (Steps.consY 39 rfl 33 true rfl hap (by kernel_rfl) ?_ ?_ (Steps.consY 40 rfl 33 true rfl hap (by kernel_rfl) ?_ ?_ (Steps.cons1 41 rfl rfl ?_ (Steps.cons1 42 rfl rfl ?_ (Steps.consY 43 rfl 41 true rfl hap (by kernel_rfl) ?_ ?_ (Steps.consY 44 rfl 41 true rfl hap (by kernel_rfl) ?_ ?_ (Steps.consY 45 rfl 41 true rfl hap (by kernel_rfl) ?_ ?_ (Steps.consY 46 rfl 41 true rfl hap (by kernel_rfl) ?_ ?_ (Steps.consY 47 rfl 41 true rfl hap (by kernel_rfl) ?_ ?_ (Steps.consY 48 rfl 41 true rfl hap (by kernel_rfl) ?_ ?_ (Steps.consY 49 rfl 41 true rfl hap (by kernel_rfl) ?_ ?_ (Steps.consY 50 rfl 41 true rfl hap (by kernel_rfl) ?_ ?_ (Steps.consY 51 rfl 41 true rfl hap (by kernel_rfl) ?_ ?_ (Steps.cons1 52 rfl rfl ?_ (Steps.cons1 53 rfl rfl ?_ (Steps.nil)))))))))))))))))))))))))))))))))))))))))))))))))))))
    · (intro ys w' hB hP K hK; simp only [Preds, Region.binds, rf12, forall_const, and_true, true_and] at hP; simp only [fillA]; go_simp; (have h2 := fun v => hK v w' hB); simp only [rf12, forall_eq] at h2; (have h2 := h2 (fun _ _ _ h => h)); simp [fillA, Act.put, hP] at h2; exact h2)
    · (intro ys w' hB hP K hK; simp only [Preds, Region.binds, rf12, forall_const, and_true, true_and] at hP; simp only [fillA]; go_simp; (have h2 := fun v => hK v w' hB); simp only [rf12, forall_eq] at h2; (have h2 := h2 (fun _ _ _ h => h)); simp [fillA, Act.put, hP] at h2; exact h2)
    · (intro ys w' hB hP K hK; simp only [Preds, Region.binds, rf12, forall_const, and_true, true_and] at hP; simp only [fillA]; go_simp; (have h2 := fun v => hK v w' hB); simp only [rf12, forall_eq] at h2; (have h2 := h2 (fun _ _ _ h => h)); simp [fillA, Act.put, hP] at h2; exact h2)
    · (intro ys w' hB hP K hK; simp only [Preds, Region.binds, rf12, forall_const, and_true, true_and] at hP; simp only [fillA]; go_simp; (have h2 := fun v => hK v w' hB); simp only [rf12, forall_eq] at h2; (have h2 := h2 (fun _ _ _ h => h)); simp [fillA, Act.put, hP] at h2; exact h2)
    · (intro ys w' hB hP; simp only [Preds, Region.binds, rf12, forall_const, and_true, true_and] at hP; simp [hP])
    · (intro ys w' hB hP K hK; simp only [Preds, Region.binds, rf12, forall_const, and_true, true_and] at hP; simp only [fillA]; go_simp; (have h2 := fun v => hK v w' hB); simp only [rf12, forall_eq] at h2; (have h2 := h2 (fun _ _ _ h => h)); simp [fillA, Act.put, hP] at h2; exact h2)
    · (intro ys w' hB hP; simp only [Preds, Region.binds, rf12, forall_const, and_true, true_and] at hP; simp [hP])
    · (intro ys w' hB hP K hK; simp only [Preds, Region.binds, rf12, forall_const, and_true, true_and] at hP; simp only [fillA]; go_simp; (have h2 := fun v => hK v w' hB); simp only [rf12, forall_eq] at h2; (have h2 := h2 (fun _ _ _ h => h)); simp [fillA, Act.put, hP] at h2; exact h2)
    · (intro ys w' hB hP; simp only [Preds, Region.binds, rf12, forall_const, and_true, true_and] at hP; simp [hP])
    · (intro ys w' hB hP K hK; simp only [Preds, Region.binds, rf12, forall_const, and_true, true_and] at hP; simp only [fillA]; go_simp; (have h2 := fun v => hK v w' hB); simp only [rf12, forall_eq] at h2; (have h2 := h2 (fun _ _ _ h => h)); simp [fillA, Act.put, hP] at h2; exact h2)
    · (intro ys w' hB hP; simp only [Preds, Region.binds, rf12, forall_const, and_true, true_and] at hP; simp [hP])
    · (intro ys w' hB hP; simp only [Preds, Region.binds, rf12, forall_const, and_true, true_and] at hP)
      obtain ⟨e0, e1, e2, e3, e4, e5, f0, f1, f2, f3, f4, f5⟩ := HTW.out.gr hB
      intro K hK
      simp only [fillA]
      go_simp
      have h2 := hK _ w' hB rfl (fun j u _ h => h)
      simp [fillA, Act.put, hP] at h2
      exact h2
    · (intro ys w' hB hP; simp only [Preds, Region.binds, rf12, forall_const, and_true, true_and] at hP; simp [hP])
    · (intro ys w' hB hP K hK; simp only [Preds, Region.binds, rf12, forall_const, and_true, true_and] at hP; simp only [fillA]; go_simp; (have h2 := fun v => hK v w' hB); simp only [rf12, forall_eq] at h2; (have h2 := h2 (fun _ _ _ h => h)); simp [fillA, Act.put, hP] at h2; exact h2)
    · (intro ys w' hB hP K hK; simp only [Preds, Region.binds, rf12, forall_const, and_true, true_and] at hP; simp only [fillA]; go_simp; (have h2 := fun v => hK v w' hB); simp only [rf12, forall_eq] at h2; (have h2 := h2 (fun _ _ _ h => h)); simp [fillA, Act.put, hP] at h2; exact h2)
    · (intro ys w' hB hP K hK; simp only [Preds, Region.binds, rf12, forall_const, and_true, true_and] at hP; simp only [fillA]; go_simp; (have h2 := fun v => hK v w' hB); simp only [rf12, forall_eq] at h2; (have h2 := h2 (fun _ _ _ h => h)); simp [fillA, Act.put, hP] at h2; exact h2)
    · (intro ys w' hB hP; simp only [Preds, Region.binds, rf12, forall_const, and_true, true_and] at hP; simp [hP])
    · (intro ys w' hB hP K hK; simp only [Preds, Region.binds, rf12, forall_const, and_true, true_and] at hP; simp only [fillA]; go_simp; (have h2 := fun v => hK v w' hB); simp only [rf12, forall_eq] at h2; (have h2 := h2 (fun _ _ _ h => h)); simp [fillA, Act.put, hP] at h2; exact h2)
    · (intro ys w' hB hP; simp only [Preds, Region.binds, rf12, forall_const, and_true, true_and] at hP; simp [hP])
    · (intro ys w' hB hP K hK; simp only [Preds, Region.binds, rf12, forall_const, and_true, true_and] at hP; simp only [fillA]; go_simp; (have h2 := fun v => hK v w' hB); simp only [rf12, forall_eq] at h2; (have h2 := h2 (fun _ _ _ h => h)); simp [fillA, Act.put, hP] at h2; exact h2)
    · (intro ys w' hB hP; simp only [Preds, Region.binds, rf12, forall_const, and_true, true_and] at hP; simp [hP])
    · (intro ys w' hB hP; simp only [Preds, Region.binds, rf12, forall_const, and_true, true_and] at hP)
      obtain ⟨e0, e1, e2, e3, e4, e5, f0, f1, f2, f3, f4, f5⟩ := HTW.out.gr hB
      intro K hK
      simp only [fillA]
      go_simp
      have h2 := hK _ w' hB rfl (fun j u _ h => h)
      simp [fillA, Act.put, hP] at h2
      exact h2
    · (intro ys w' hB hP; simp only [Preds, Region.binds, rf12, forall_const, and_true, true_and] at hP; simp [hP])
    · (intro ys w' hB hP; simp only [Preds, Region.binds, rf12, forall_const, and_true, true_and] at hP)
      intro K hK
      simp only [fillA]
      go_simp
      (with_reducible refine (HI1.out _).mono ?_)
      rintro e w10 ⟨rfl, hg10⟩
      have h2 := hK _ w10 (hB.trans hg10) rfl (fun j u _ h => h.gr hg10)
      simp [fillA, Act.put, hP] at h2
      exact h2
    · (intro ys w' hB hP; simp only [Preds, Region.binds, rf12, forall_const, and_true, true_and] at hP; simp [hP])
    · (intro ys w' hB hP K hK; simp only [Preds, Region.binds, rf12, forall_const, and_true, true_and] at hP; simp only [fillA]; go_simp; (have h2 := fun v => hK v w' hB); simp only [rf12, forall_eq] at h2; (have h2 := h2 (fun _ _ _ h => h)); simp [fillA, Act.put, hP] at h2; exact h2)
    · (intro ys w' hB hP; simp only [Preds, Region.binds, rf12, forall_const, and_true, true_and] at hP; simp [hP])
    · (intro ys w' hB hP K hK; simp only [Preds, Region.binds, rf12, forall_const, and_true, true_and] at hP; simp only [fillA]; go_simp; (have h2 := fun v => hK v w' hB); simp only [rf12, forall_eq] at h2; (have h2 := h2 (fun _ _ _ h => h)); simp [fillA, Act.put, hP] at h2; exact h2)
    · (intro ys w' hB hP K hK; simp only [Preds, Region.binds, rf12, forall_const, and_true, true_and] at hP; simp only [fillA]; go_simp; (have h2 := fun v => hK v w' hB); simp only [rf12, forall_eq] at h2; (have h2 := h2 (fun _ _ _ h => h)); simp [fillA, Act.put, hP] at h2; exact h2)
    · (intro ys w' hB hP K hK; simp only [Preds, Region.binds, rf12, forall_const, and_true, true_and] at hP; simp only [fillA]; go_simp; (have h2 := fun v => hK v w' hB); simp only [rf12, forall_eq] at h2; (have h2 := h2 (fun _ _ _ h => h)); simp [fillA, Act.put, hP] at h2; exact h2)
    · (intro ys w' hB hP; simp only [Preds, Region.binds, rf12, forall_const, and_true, true_and] at hP; simp [hP])
    · (intro ys w' hB hP K hK; simp only [Preds, Region.binds, rf12, forall_const, and_true, true_and] at hP; simp only [fillA]; go_simp; (have h2 := fun v => hK v w' hB); simp only [rf12, forall_eq] at h2; (have h2 := h2 (fun _ _ _ h => h)); simp [fillA, Act.put, hP] at h2; exact h2)
    · (intro ys w' hB hP; simp only [Preds, Region.binds, rf12, forall_const, and_true, true_and] at hP; simp [hP])
    · (intro ys w' hB hP K hK; simp only [Preds, Region.binds, rf12, forall_const, and_true, true_and] at hP; simp only [fillA]; go_simp; (have h2 := fun v => hK v w' hB); simp only [rf12, forall_eq] at h2; (have h2 := h2 (fun _ _ _ h => h)); simp [fillA, Act.put, hP] at h2; exact h2)
    · (intro ys w' hB hP; simp only [Preds, Region.binds, rf12, forall_const, and_true, true_and] at hP; simp [hP])
    · (intro ys w' hB hP K hK; simp only [Preds, Region.binds, rf12, forall_const, and_true, true_and] at hP; simp only [fillA]; go_simp; (have h2 := fun v => hK v w' hB); simp only [rf12, forall_eq] at h2; (have h2 := h2 (fun _ _ _ h => h)); simp [fillA, Act.put, hP] at h2; exact h2)
    · (intro ys w' hB hP; simp only [Preds, Region.binds, rf12, forall_const, and_true, true_and] at hP; simp [hP])
    · (intro ys w' hB hP; simp only [Preds, Region.binds, rf12, forall_const, and_true, true_and] at hP)
      obtain ⟨e0, e1, e2, e3, e4, e5, f0, f1, f2, f3, f4, f5⟩ := HTW.out.gr hB
      intro K hK
      simp only [fillA]
      go_simp
      have h2 := hK _ w' hB rfl (fun j u _ h => h)
      simp [fillA, Act.put, hP] at h2
      exact h2
    · (intro ys w' hB hP; simp only [Preds, Region.binds, rf12, forall_const, and_true, true_and] at hP; simp [hP])
    · (intro ys w' hB hP K hK; simp only [Preds, Region.binds, rf12, forall_const, and_true, true_and] at hP; simp only [fillA]; go_simp; (have h2 := fun v => hK v w' hB); simp only [rf12, forall_eq] at h2; (have h2 := h2 (fun _ _ _ h => h)); simp [fillA, Act.put, hP] at h2; exact h2)
    · (intro ys w' hB hP K hK; simp only [Preds, Region.binds, rf12, forall_const, and_true, true_and] at hP; simp only [fillA]; go_simp; (have h2 := fun v => hK v w' hB); simp only [rf12, forall_eq] at h2; (have h2 := h2 (fun _ _ _ h => h)); simp [fillA, Act.put, hP] at h2; exact h2)
    · (intro ys w' hB hP K hK; simp only [Preds, Region.binds, rf12, forall_const, and_true, true_and] at hP; simp only [fillA]; go_simp; (have h2 := fun v => hK v w' hB); simp only [rf12, forall_eq] at h2; (have h2 := h2 (fun _ _ _ h => h)); simp [fillA, Act.put, hP] at h2; exact h2)
    · (intro ys w' hB hP; simp only [Preds, Region.binds, rf12, forall_const, and_true, true_and] at hP; simp [hP])
    · (intro ys w' hB hP K hK; simp only [Preds, Region.binds, rf12, forall_const, and_true, true_and] at hP; simp only [fillA]; go_simp; (have h2 := fun v => hK v w' hB); simp only [rf12, forall_eq] at h2; (have h2 := h2 (fun _ _ _ h => h)); simp [fillA, Act.put, hP] at h2; exact h2)
    · (intro ys w' hB hP; simp only [Preds, Region.binds, rf12, forall_const, and_true, true_and] at hP; simp [hP])
    · (intro ys w' hB hP K hK; simp only [Preds, Region.binds, rf12, forall_const, and_true, true_and] at hP; simp only [fillA]; go_simp; (have h2 := fun v => hK v w' hB); simp only [rf12, forall_eq] at h2; (have h2 := h2 (fun _ _ _ h => h)); simp [fillA, Act.put, hP] at h2; exact h2)
    · (intro ys w' hB hP; simp only [Preds, Region.binds, rf12, forall_const, and_true, true_and] at hP; simp [hP])
    · (intro ys w' hB hP; simp only [Preds, Region.binds, rf12, forall_const, and_true, true_and] at hP)
      obtain ⟨e0, e1, e2, e3, e4, e5, f0, f1, f2, f3, f4, f5⟩ := HTW.out.gr hB
      intro K hK
      simp only [fillA]
      go_simp
      have h2 := hK _ w' hB rfl (fun j u _ h => h)
      simp [fillA, Act.put, hP] at h2
      exact h2
    · (intro ys w' hB hP; simp only [Preds, Region.binds, rf12, forall_const, and_true, true_and] at hP; simp [hP])
    · (intro ys w' hB hP; simp only [Preds, Region.binds, rf12, forall_const, and_true, true_and] at hP)
      intro K hK
      simp only [fillA]
      go_simp
      (with_reducible refine (HI2.out _).mono ?_)
      rintro e w10 ⟨rfl, hg10⟩
      have h2 := hK _ w10 (hB.trans hg10) rfl (fun j u _ h => h.gr hg10)
      simp [fillA, Act.put, hP] at h2
      exact h2
    · (intro ys w' hB hP; simp only [Preds, Region.binds, rf12, forall_const, and_true, true_and] at hP; simp [hP])
    · (intro ys w' hB hP K hK; simp only [Preds, Region.binds, rf12, forall_const, and_true, true_and] at hP; simp only [fillA]; go_simp; (have h2 := fun v => hK v w' hB); simp only [rf12, forall_eq] at h2; (have h2 := h2 (fun _ _ _ h => h)); simp [fillA, Act.put, hP] at h2; exact h2)
    · (intro ys w' hB hP; simp only [Preds, Region.binds, rf12, forall_const, and_true, true_and] at hP; simp [hP])
    · (intro ys w' hB hP K hK; simp only [Preds, Region.binds, rf12, forall_const, and_true, true_and] at hP; simp only [fillA]; go_simp; (have h2 := fun v => hK v w' hB); simp only [rf12, forall_eq] at h2; (have h2 := h2 (fun _ _ _ h => h)); simp [fillA, Act.put, hP] at h2; exact h2)
    · (intro ys w' hB hP K hK; simp only [Preds, Region.binds, rf12, forall_const, and_true, true_and] at hP; simp only [fillA]; go_simp; (have h2 := fun v => hK v w' hB); simp only [rf12, forall_eq] at h2; (have h2 := h2 (fun _ _ _ h => h)); simp [fillA, Act.put, hP] at h2; exact h2)
    · (intro ys w' hB hP K hK; simp only [Preds, Region.binds, rf12, forall_const, and_true, true_and] at hP; simp only [fillA]; go_simp; (have h2 := fun v => hK v w' hB); simp only [rf12, forall_eq] at h2; (have h2 := h2 (fun _ _ _ h => h)); simp [fillA, Act.put, hP] at h2; exact h2)
    · (intro ys w' hB hP; simp only [Preds, Region.binds, rf12, forall_const, and_true, true_and] at hP; simp [hP])
    · (intro ys w' hB hP K hK; simp only [Preds, Region.binds, rf12, forall_const, and_true, true_and] at hP; simp only [fillA]; go_simp; (have h2 := fun v => hK v w' hB); simp only [rf12, forall_eq] at h2; (have h2 := h2 (fun _ _ _ h => h)); simp [fillA, Act.put, hP] at h2; exact h2)
    · (intro ys w' hB hP; simp only [Preds, Region.binds, rf12, forall_const, and_true, true_and] at hP; simp [hP])
    · (intro ys w' hB hP K hK; simp only [Preds, Region.binds, rf12, forall_const, and_true, true_and] at hP; simp only [fillA]; go_simp; (have h2 := fun v => hK v w' hB); simp only [rf12, forall_eq] at h2; (have h2 := h2 (fun _ _ _ h => h)); simp [fillA, Act.put, hP] at h2; exact h2)
    · (intro ys w' hB hP; simp only [Preds, Region.binds, rf12, forall_const, and_true, true_and] at hP; simp [hP])
    · (intro ys w' hB hP K hK; simp only [Preds, Region.binds, rf12, forall_const, and_true, true_and] at hP; simp only [fillA]; go_simp; (have h2 := fun v => hK v w' hB); simp only [rf12, forall_eq] at h2; (have h2 := h2 (fun _ _ _ h => h)); simp [fillA, Act.put, hP] at h2; exact h2)
    · (intro ys w' hB hP; simp only [Preds, Region.binds, rf12, forall_const, and_true, true_and] at hP; simp [hP])
    · (intro ys w' hB hP; simp only [Preds, Region.binds, rf12, forall_const, and_true, true_and] at hP)
      obtain ⟨e0, e1, e2, e3, e4, e5, f0, f1, f2, f3, f4, f5⟩ := HTW.out.gr hB
      intro K hK
      simp only [fillA]
      go_simp
      have h2 := hK _ w' hB rfl (fun j u _ h => h)
      simp [fillA, Act.put, hP] at h2
      exact h2
    · (intro ys w' hB hP; simp only [Preds, Region.binds, rf12, forall_const, and_true, true_and] at hP; simp [hP])
    · (intro ys w' hB hP; simp only [Preds, Region.binds, rf12, forall_const, and_true, true_and] at hP)
      have hcv := HCD.out _ hB
      intro K hK
      simp only [fillA]
      go_simp
      have h2 := hK _ w' hB rfl (fun j u _ h => h)
      simp [fillA, Act.put, hP] at h2
      exact h2
    · (intro ys w' hB hP; simp only [Preds, Region.binds, rf12, forall_const, and_true, true_and] at hP; simp [hP])
    · (intro ys w' hB hP K hK; simp only [Preds, Region.binds, rf12, forall_const, and_true, true_and] at hP; simp only [fillA]; go_simp; (have h2 := fun v => hK v w' hB); simp only [rf12, forall_eq] at h2; (have h2 := h2 (fun _ _ _ h => h)); simp [fillA, Act.put, hP] at h2; exact h2)
    · (intro ys w' hB hP K hK; simp only [Preds, Region.binds, rf12, forall_const, and_true, true_and] at hP; simp only [fillA]; go_simp; (have h2 := fun v => hK v w' hB); simp only [rf12, forall_eq] at h2; (have h2 := h2 (fun _ _ _ h => h)); simp [fillA, Act.put, hP] at h2; exact h2)
    · (intro ys w' hB hP K hK; simp only [Preds, Region.binds, rf12, forall_const, and_true, true_and] at hP; simp only [fillA]; go_simp; (have h2 := fun v => hK v w' hB); simp only [rf12, forall_eq] at h2; (have h2 := h2 (fun _ _ _ h => h)); simp [fillA, Act.put, hP] at h2; exact h2)
    · (intro ys w' hB hP; simp only [Preds, Region.binds, rf12, forall_const, and_true, true_and] at hP; simp [hP])
    · (intro ys w' hB hP K hK; simp only [Preds, Region.binds, rf12, forall_const, and_true, true_and] at hP; simp only [fillA]; go_simp; (have h2 := fun v => hK v w' hB); simp only [rf12, forall_eq] at h2; (have h2 := h2 (fun _ _ _ h => h)); simp [fillA, Act.put, hP] at h2; exact h2)
    · (intro ys w' hB hP; simp only [Preds, Region.binds, rf12, forall_const, and_true, true_and] at hP; simp [hP])
    · (intro ys w' hB hP K hK; simp only [Preds, Region.binds, rf12, forall_const, and_true, true_and] at hP; simp only [fillA]; go_simp; (have h2 := fun v => hK v w' hB); simp only [rf12, forall_eq] at h2; (have h2 := h2 (fun _ _ _ h => h)); simp [fillA, Act.put, hP] at h2; exact h2)
    · (intro ys w' hB hP; simp only [Preds, Region.binds, rf12, forall_const, and_true, true_and] at hP; simp [hP])
    · (intro ys w' hB hP K hK; simp only [Preds, Region.binds, rf12, forall_const, and_true, true_and] at hP; simp only [fillA]; go_simp; (have h2 := fun v => hK v w' hB); simp only [rf12, forall_eq] at h2; (have h2 := h2 (fun _ _ _ h => h)); simp [fillA, Act.put, hP] at h2; exact h2)
    · (intro ys w' hB hP; simp only [Preds, Region.binds, rf12, forall_const, and_true, true_and] at hP; simp [hP])
    · (intro ys w' hB hP; simp only [Preds, Region.binds, rf12, forall_const, and_true, true_and] at hP)
      obtain ⟨e0, e1, e2, e3, e4, e5, f0, f1, f2, f3, f4, f5⟩ := HTW.out.gr hB
      intro K hK
      simp only [fillA]
      go_simp
      have h2 := hK _ w' hB rfl (fun j u _ h => h)
      simp [fillA, Act.put, hP] at h2
      exact h2
    · (intro ys w' hB hP; simp only [Preds, Region.binds, rf12, forall_const, and_true, true_and] at hP; simp [hP])
    · (intro ys w' hB hP K hK; simp only [Preds, Region.binds, rf12, forall_const, and_true, true_and] at hP; simp only [fillA]; go_simp; (have h2 := fun v => hK v w' hB); simp only [rf12, forall_eq] at h2; (have h2 := h2 (fun _ _ _ h => h)); simp [fillA, Act.put, hP] at h2; exact h2)
    · (intro ys w' hB hP; simp only [Preds, Region.binds, rf12, forall_const, and_true, true_and] at hP; simp [hP])
    · (intro ys w' hB hP K hK; simp only [Preds, Region.binds, rf12, forall_const, and_true, true_and] at hP; simp only [fillA]; go_simp; (have h2 := fun v => hK v w' hB); simp only [rf12, forall_eq] at h2; (have h2 := h2 (fun _ _ _ h => h)); simp [fillA, Act.put, hP] at h2; exact h2)
    · (intro ys w' hB hP; simp only [Preds, Region.binds, rf12, forall_const, and_true, true_and] at hP; simp [hP])
    · (intro ys w' hB hP K hK; simp only [Preds, Region.binds, rf12, forall_const, and_true, true_and] at hP; simp only [fillA]; go_simp; (have h2 := fun v => hK v w' hB); simp only [rf12, forall_eq] at h2; (have h2 := h2 (fun _ _ _ h => h)); simp [fillA, Act.put, hP] at h2; exact h2)
    · (intro ys w' hB hP; simp only [Preds, Region.binds, rf12, forall_const, and_true, true_and] at hP; simp [hP])
    · (intro ys w' hB hP; simp only [Preds, Region.binds, rf12, forall_const, and_true, true_and] at hP)
      obtain ⟨e0, e1, e2, e3, e4, e5, f0, f1, f2, f3, f4, f5⟩ := HTW.out.gr hB
      intro K hK
      simp only [fillA]
      go_simp
      have h2 := hK _ w' hB rfl (fun j u _ h => h)
      simp [fillA, Act.put, hP] at h2
      exact h2
    · (intro ys w' hB hP; simp only [Preds, Region.binds, rf12, forall_const, and_true, true_and] at hP; simp [hP])
    · (intro ys w' hB hP; simp only [Preds, Region.binds, rf12, forall_const, and_true, true_and] at hP)
      intro K hK
      simp only [fillA]
      go_simp
      (with_reducible refine (HSM.out _ hB).mono ?_)
      rintro e w10 ⟨rfl, hg10⟩
      have h2 := hK _ w10 (hB.trans hg10) rfl (fun j u _ h => h.gr hg10)
      simp [fillA, Act.put, hP] at h2
      exact h2
    · (intro ys w' hB hP K hK; simp only [Preds, Region.binds, rf12, forall_const, and_true, true_and] at hP; simp only [fillA]; go_simp; (have h2 := fun v => hK v w' hB); simp only [rf12, forall_eq] at h2; (have h2 := h2 (fun _ _ _ h => h)); simp [fillA, Act.put, hP] at h2; exact h2)
    · (intro ys w' hB hP K hK; simp only [Preds, Region.binds, rf12, forall_const, and_true, true_and] at hP; simp only [fillA]; go_simp; (have h2 := fun v => hK v w' hB); simp only [rf12, forall_eq] at h2; (have h2 := h2 (fun _ _ _ h => h)); simp [fillA, Act.put, hP] at h2; exact h2)
  · intro ys9 w9 hB9 hF
    have f52 : ys9 52 = .bool true := hF 52 (by decide)
    simp only [fillA, f52, Act.put, Nat.zero_add, List.setIfInBounds_toArray, List.set_cons_zero, List.set_cons_succ]
    exact hQ _ _ _ _ _ _ _ _ _ _ _ _ _ _ _ _ _ _ _ _ _ _ _ _ _ _ _ _ _ _ _ _ _ _ _ _ _ _ _ _ _ _ _ _ _ _ _ _ _ _ _ _ w9 hB9
end Go.Proofs.YtjfffkaifcajbaaDoor
