/-
  Law 11's fixed fact; the law TokenChecks.
-/
import Derived.Deep.DeepCutAuto
import Derived.Test.YtgbmjlajheeciaaDoorZTkV
import Derived.Test.YtgbmjlajheeciaaDoorZOrd6
namespace Go.Proofs.YtgbmjlajheeciaaDoor
set_option linter.unusedSimpArgs false
set_option linter.unusedVariables false
open Go.RowKit
set_option linter.unusedVariables false

theorem RdTok.of_r {w : World} {t : Tok} {pa da : Option Addr} {pc dc n1 n2 : Nat} (h : RTok w t (.slice pa n1 pc, .slice da n2 dc)) (h1 : t.params.length = n1) (h2 : t.data.length = n2) (hs : n1 ≤ 9223372036854775807 ∧ n2 ≤ 9223372036854775807 ∧ t.inters.length ≤ 9223372036854775807) : RdTok w t pa n1 da n2 := by
  subst h1; subst h2
  exact ⟨(h.params.rdi).1, (h.data.rdi).1, hs⟩
/-- The token of the fixed fact. -/
def tok0 : Tok := ⟨4, 112, 63, [6], [36], []⟩
theorem tok0_check : checkR tok0 = 0 := by decide +kernel
theorem tok0_bytes : bytesR tok0 true = [155, 63, 54, 36, 112] := by decide +kernel
theorem tok0_range : TRange tok0 := ⟨by decide, by decide, by decide, by decide⟩

set_option maxRecDepth 100000 in
set_option maxHeartbeats 2000000 in
theorem awake11 {w : World} (hT : tabT w) : Calls Tryd.prog 8 #[] w fun e w' => e = .returned (.bool true) ∧ Gr w w' := by
  have hby : ∀ (w' : World) (g : Nat), Gr w w' → w'.heap[g]? = some (.cells #[.int .i64 6] 3 (0, 0)) → Calls Tryd.prog 14 #[.agg #[.int .i64 4, .int .u8 112, .int .u8 63, .slice (some ⟨g, 0, none⟩) 1 1, .string ⟨#[36]⟩, .slice none 0 0], .bool true] w' (BytesAny w' tok0 true) := fun w' g hg hb =>
    bytes_any (t := tok0) (q := (.slice (some ⟨g, 0, none⟩) 1 1, .slice none 0 0)) tok0_range ⟨HasRow.of_own (lit_own (B := 0) hb (Nat.zero_le _)), HasRow.nil _ _⟩ (hT.gr hg) true
  have hid : ∀ (w' : World) (g : Nat), Calls Tryd.prog 16 #[.agg #[.int .i64 4, .int .u8 112, .int .u8 63, .slice (some ⟨g, 0, none⟩) 1 1, .string ⟨#[36]⟩, .slice none 0 0]] w' fun e w2 => e = .returned (.string ⟨#[63, 36, 112]⟩) ∧ Gr w' w2 := fun w' g =>
    id_any (w := w') (k := 4) (c := 112) (m := 63) (l := [36]) (a1 := some ⟨g, 0, none⟩) (n1 := 1) (c1 := 1) (a2 := none) (n2 := 0) (c2 := 0) (by decide) (by decide)
  clear hT
  go_enter Tryd.func8, Tryd.ntmps8
  go_wp2_with fail
  (with_reducible refine (hby _ _ (((Gr.refl w).alloc _).alloc _) (((Gr.refl _).alloc _).blk (heap_alloc_new _ _))).mono ?_)
  rintro e w1 ⟨va, n, vc, rfl, hr, hg1⟩
  rw [if_pos tok0_check, tok0_bytes] at hr
  have hcv := conv_row hr
  rw [show strOf [155, 63, 54, 36, 112] = ⟨#[155, 63, 54, 36, 112]⟩ from rfl] at hcv
  rw [tok0_check]
  have hbx := hg1.blk (heap_new2 w _ _)
  obtain ⟨t0, t1, t2, t3, t4, t5, tf⟩ := cells6 hbx
  have hgw : Gr w w1 := (((Gr.refl w).alloc _).alloc _).trans hg1
  clear hby hr hbx
  go_wp2_with (go_at_call 16; (with_reducible refine (hid _ _).mono ?_); rintro e w2 ⟨rfl, hg2⟩)
  go_ret
  exact ⟨rfl, hgw.trans hg2⟩

/-! facts -/
def ckF (k c m : Int) (a1 : Option Addr) (n1 c1 : Nat) (s : ByteArray) (a2 : Option Addr) (n2 c2 : Nat) (va : Option Addr) (n vc : Nat) (X : ByteArray) (eight : Bool) (L : List Int) : Nat → Value → World → Prop
  | 0, v, _ => v = .int .i64 0
  | 1, v, _ => v = .int .i64 0
  | 2, v, _ => v = .bool false
  | 3, v, _ => v = .bool false
  | 4, v, _ => v = .int .i64 0
  | 5, v, _ => v = .bool false
  | 6, v, _ => v = .bool false
  | 7, _, _ => True
  | 8, _, _ => True
  | 9, _, _ => True
  | 10, v, _ => v = .bool false
  | 11, v, _ => v = .bool false
  | 12, v, _ => v = .bool false
  | 13, v, _ => v = .int .i64 0
  | 14, v, _ => v = .bool true
  | 15, v, _ => v = .bool true
  | 16, v, _ => v = .slice va n vc
  | 17, v, _ => v = .string X
  | 18, v, _ => v = .agg #[.int .i64 k, .int .u8 c, .int .u8 m, .slice a1 n1 c1, .string s, .slice a2 n2 c2]
  | 19, v, _ => v = .bool eight
  | 20, v, w' => ∃ va n vc, v = .slice va n vc ∧ HasRow w' 5 (.slice va n vc) n (bcells L)
  | 21, v, _ => v = .string X
  | 22, v, _ => v = .bool false
  | 23, v, _ => v = .bool false
  | 24, v, _ => v = .bool false
  | _, _, _ => True
theorem ckF.gr {k c m : Int} {a1 : Option Addr} {n1 c1 : Nat} {s : ByteArray} {a2 : Option Addr} {n2 c2 : Nat} {va : Option Addr} {n vc : Nat} {X : ByteArray} {eight : Bool} {L : List Int} {w1 w2 : World} {j : Nat} {u : Value} (h : ckF k c m a1 n1 c1 s a2 n2 c2 va n vc X eight L j u w1) (hg : Gr w1 w2) : ckF k c m a1 n1 c1 s a2 n2 c2 va n vc X eight L j u w2 := by
  unfold ckF at h ⊢
  split <;> first | exact h | skip
  · obtain ⟨va, n, vc, e, h⟩ := h; exact ⟨va, n, vc, e, h.gr hg⟩
  all_goals trivial
/-! end -/
/-- What is known of a token that came in, and of the program's own one. -/
structure TokKit (w : World) (T : Tok) (k c m : Int) (s : ByteArray) (a1 a2 : Option Addr) (n1 c1 n2 c2 : Nat) (r : Int) : Prop where
  own : ∀ W, Gr w W → Calls Tryd.prog 9 #[.agg #[.int .i64 k, .int .u8 c, .int .u8 m, .slice a1 n1 c1, .string s, .slice a2 n2 c2]] W fun e w' => ∃ pa pc da dc, e = .returned (.agg #[.int .i64 k, .int .u8 c, .int .u8 m, .slice pa n1 pc, .string s, .slice da n2 dc]) ∧ OTok W.heap.size w' T (.slice pa n1 pc, .slice da n2 dc) ∧ Gr W w'
  rcheck : ∀ W, Gr w W → Calls Tryd.prog 11 #[.agg #[.int .i64 k, .int .u8 c, .int .u8 m, .slice a1 n1 c1, .string s, .slice a2 n2 c2]] W fun e w' => e = .returned (.int .i64 r) ∧ Gr W w'
  rbytes : r = 0 → ∀ W, Gr w W → ∀ eight, Calls Tryd.prog 15 #[.agg #[.int .i64 k, .int .u8 c, .int .u8 m, .slice a1 n1 c1, .string s, .slice a2 n2 c2], .bool eight] W (RBOut W (bytesR T eight))
  rid : ∀ W, Calls Tryd.prog 17 #[.agg #[.int .i64 k, .int .u8 c, .int .u8 m, .slice a1 n1 c1, .string s, .slice a2 n2 c2]] W (IdOut W (idR T.kind T.code T.mark T.inters))
  check : ∀ W pa pc da dc, RTok W T (.slice pa n1 pc, .slice da n2 dc) → Calls Tryd.prog 10 #[.agg #[.int .i64 k, .int .u8 c, .int .u8 m, .slice pa n1 pc, .string s, .slice da n2 dc]] W fun e w' => e = .returned (.int .i64 r) ∧ Gr W w'
  bytes : ∀ W pa pc da dc, RTok W T (.slice pa n1 pc, .slice da n2 dc) → Gr w W → ∀ eight, Calls Tryd.prog 14 #[.agg #[.int .i64 k, .int .u8 c, .int .u8 m, .slice pa n1 pc, .string s, .slice da n2 dc], .bool eight] W fun e w' => ∃ va n vc, e = .returned (.tuple #[.slice va n vc, .int .i64 r]) ∧ HasRow w' 5 (.slice va n vc) n (bcells (if r = 0 then bytesR T eight else [])) ∧ Gr W w'
  told : ∀ W pa pc da dc, Calls Tryd.prog 13 #[.agg #[.int .i64 k, .int .u8 c, .int .u8 m, .slice pa n1 pc, .string s, .slice da n2 dc]] W fun e w' => e = .returned (.agg #[.int .i64 k, .int .u8 c, .int .u8 m, .slice pa n1 pc, .string s, .slice da n2 dc]) ∧ Gr W w'
  same : ∀ W pa pc da dc, RTok W T (.slice pa n1 pc, .slice da n2 dc) → Gr w W → Calls Tryd.prog 12 #[.agg #[.int .i64 k, .int .u8 c, .int .u8 m, .slice pa n1 pc, .string s, .slice da n2 dc], .agg #[.int .i64 k, .int .u8 c, .int .u8 m, .slice a1 n1 c1, .string s, .slice a2 n2 c2]] W fun e w' => e = .returned (.bool true) ∧ Gr W w'
  id : ∀ W pa pc da dc, Calls Tryd.prog 16 #[.agg #[.int .i64 k, .int .u8 c, .int .u8 m, .slice pa n1 pc, .string s, .slice da n2 dc]] W (IdOut W (idR T.kind T.code T.mark T.inters))
  len1 : T.params.length = n1
  len2 : T.data.length = n2
  small : n1 ≤ 9223372036854775807 ∧ n2 ≤ 9223372036854775807 ∧ T.inters.length ≤ 9223372036854775807
  here : RdTok w T a1 n1 a2 n2
  range : TRange T
  parts : T.kind = k ∧ T.code = c ∧ T.mark = m ∧ strOf T.inters = s ∧ r = checkR T
set_option maxRecDepth 100000 in
theorem tokKit {w : World} {T : Tok} {a1 a2 : Option Addr} {n1 c1 n2 c2 : Nat} (hr : TRange T) (h : RdTok w T a1 n1 a2 n2) (hcap : n1 ≤ c1) (hmax : c1 ≤ maxLen) (b1 : n1 * 8 ≤ 140737488355328) (b2 : n2 ≤ 140737488355328) (b3 : T.inters.length ≤ 140737488351232) (hT : tabT w) :
    TokKit w T T.kind T.code T.mark (strOf T.inters) a1 a2 n1 c1 n2 c2 (checkR T) where
  own W hg := by
    refine (own_walk (k := T.kind) (c := T.code) (m := T.mark) (c1 := c1) (c2 := c2) (l := T.inters) (h.params.gr hg) (h.data.gr hg) b1 b2).mono ?_
    rintro e w' ⟨⟨qp, qd⟩, rfl, hO, hg2⟩
    have hpl : T.params.length = n1 := h.plen
    have hdl : T.data.length = n2 := h.dlen
    obtain ⟨pa, pc, e1⟩ := row_form hO.params
    obtain ⟨da, dc, e2⟩ := row_form hO.data
    simp only at e1 e2
    rw [hpl] at e1
    rw [hdl] at e2
    subst e1; subst e2
    exact ⟨pa, pc, da, dc, rfl, hO, hg2⟩
  rcheck W hg := rcheck_any (c1 := c1) (c2 := c2) hr (h.gr hg)
  rbytes h0 W hg eight := rbytes_can (c2 := c2) (check_zero hr h0) (h.gr hg) hcap hmax eight
  rid W := rid_any (w := W) (k := T.kind) (c := T.code) (m := T.mark) (l := T.inters) (a1 := a1) (n1 := n1) (c1 := c1) (a2 := a2) (n2 := n2) (c2 := c2) b3
  check W pa pc da dc hq := by have h1 := check_any hr hq; simp only [tcells] at h1; exact h1
  bytes W pa pc da dc hq hg eight := bytes_any hr hq (hT.gr hg) eight
  told W pa pc da dc := told_any T pa da n1 pc n2 dc W
  same W pa pc da dc hq hg := by
    have h1 := rsame_any (c1 := pc) (c2 := dc) (d1 := c1) (d2 := c2) hr hr (RdTok.of_r hq h.plen h.dlen h.small) (h.gr hg)
    rw [(sameT_iff T T).2 rfl] at h1
    exact h1
  id W pa pc da dc := id_any (w := W) (k := T.kind) (c := T.code) (m := T.mark) (l := T.inters) (a1 := pa) (n1 := n1) (c1 := pc) (a2 := da) (n2 := n2) (c2 := dc) b3 hr.inters
  len1 := h.plen
  len2 := h.dlen
  small := h.small
  here := h
  range := hr
  parts := ⟨rfl, rfl, rfl, rfl, rfl⟩

set_option maxRecDepth 100000 in
set_option maxHeartbeats 4000000 in
theorem checks_walk {w : World} {T : Tok} {k c m r : Int} {s : ByteArray} {a1 a2 : Option Addr} {n1 c1 n2 c2 : Nat} (K : TokKit w T k c m s a1 a2 n1 c1 n2 c2 r) (hT : tabT w) :
    Calls Tryd.prog 3 #[.agg #[.int .i64 k, .int .u8 c, .int .u8 m, .slice a1 n1 c1, .string s, .slice a2 n2 c2]] w fun e w' => e = .returned (.bool true) ∧ Gr w w' := by
  have haw := fun (W : World) (hg : Gr w W) => awake11 (hT.gr hg)
  have hb0 := heap_alloc_new w (.cells #[.int .i64 k, .int .u8 c, .int .u8 m, .slice a1 n1 c1, .string s, .slice a2 n2 c2] 25)
  have hw0 := (Gr.refl w).alloc (.cells #[.int .i64 k, .int .u8 c, .int .u8 m, .slice a1 n1 c1, .string s, .slice a2 n2 c2] 25)
  have hb1 : ∀ w9, Gr (w.alloc (.cells #[.int .i64 k, .int .u8 c, .int .u8 m, .slice a1 n1 c1, .string s, .slice a2 n2 c2] 25)) w9 → w9.heap[w.heap.size]? = some (.cells #[.int .i64 k, .int .u8 c, .int .u8 m, .slice a1 n1 c1, .string s, .slice a2 n2 c2] 25 (0, 0)) := fun w9 hg => hg.blk hb0
  go_enter Tryd.func3, Tryd.ntmps3
  go_upto_region 1 with (fail)
  obtain ⟨wb, hwb⟩ : ∃ wb, wb = w.alloc (.cells #[.int .i64 k, .int .u8 c, .int .u8 m, .slice a1 n1 c1, .string s, .slice a2 n2 c2] 25) := ⟨_, rfl⟩
  rw [← hwb] at hb1 hw0 ⊢
  have hS1 := fun (w9 : World) (hg : Gr wb w9) => cells6 (hb1 w9 hg)
  have hbz : w.heap.size < wb.heap.size := by rw [hwb]; simp
  clear hwb hb0
  go_upto_region 4 with (first
    | (go_at_call 8; (with_reducible refine (haw _ hw0).mono ?_); rintro e w1 ⟨rfl, hg1⟩; obtain ⟨t0, t1, t2, t3, t4, t5, tf⟩ := hS1 _ hg1)
    | (go_at_call 9; (with_reducible refine (K.own _ (hw0.trans hg1)).mono ?_); rintro e w2 ⟨pa, pc, da, dc, rfl, hO, hg2⟩))
  have hg12 := hg1.trans hg2
  have hO3 := hO.r.gr ((Gr.refl w2).alloc (.cells #[.int .i64 k, .int .u8 c, .int .u8 m, .slice pa n1 pc, .string s, .slice da n2 dc] 27))
  have hb3 := heap_alloc_new w2 (.cells #[.int .i64 k, .int .u8 c, .int .u8 m, .slice pa n1 pc, .string s, .slice da n2 dc] 27)
  obtain ⟨w3, hw3⟩ : ∃ w3, w3 = w2.alloc (.cells #[.int .i64 k, .int .u8 c, .int .u8 m, .slice pa n1 pc, .string s, .slice da n2 dc] 27) := ⟨_, rfl⟩
  have hg13 : Gr wb w3 := by rw [hw3]; exact hg12.alloc _
  rw [← hw3] at hO3 hb3 ⊢
  obtain ⟨B3, hB3⟩ : ∃ B3, B3 = w2.heap.size := ⟨_, rfl⟩
  rw [← hB3] at hb3 ⊢
  have hS3 := fun (w9 : World) (hg : Gr w3 w9) => cells6 (hg.blk hb3)
  have hS := fun (w9 : World) (hg : Gr w3 w9) => hS1 w9 (hg13.trans hg)
  have hgw : Gr w w3 := hw0.trans hg13
  have hg3 := Gr.refl w3
  have hB1 : w.heap.size < B3 := by rw [hB3]; have := gr_le hg12; omega
  have hB2 : B3 < w3.heap.size := (Array.getElem?_eq_some_iff.1 hb3).1
  clear hw3 hB3 hS1 hb1 hw0 hg13 hg12 hg1 hg2 hO t0 t1 t2 t3 t4 t5 tf haw hT
  obtain ⟨t0, t1, t2, t3, t4, t5, tf⟩ := hS3 _ hg3
  go_upto_region 5 with (go_at_call 10; (with_reducible refine (K.check _ _ _ _ _ hO3).mono ?_); rintro e w4 ⟨rfl, hg4⟩)
  clear t0 t1 t2 t3 t4 t5 tf
  go_region_held3 (fun w9 => Gr w3 w9 ∧ w9.cell? ⟨w.heap.size, 0, none⟩ = some (.int .i64 k) ∧ w9.cell? ⟨w.heap.size, 1, none⟩ = some (.int .u8 c) ∧ w9.cell? ⟨w.heap.size, 2, none⟩ = some (.int .u8 m) ∧ w9.cell? ⟨w.heap.size, 3, none⟩ = some (.slice a1 n1 c1) ∧ w9.cell? ⟨w.heap.size, 4, none⟩ = some (.string s) ∧ w9.cell? ⟨w.heap.size, 5, none⟩ = some (.slice a2 n2 c2) ∧ w9.cell? ⟨B3, 0, none⟩ = some (.int .i64 k) ∧ w9.cell? ⟨B3, 1, none⟩ = some (.int .u8 c) ∧ w9.cell? ⟨B3, 2, none⟩ = some (.int .u8 m) ∧ w9.cell? ⟨B3, 3, none⟩ = some (.slice pa n1 pc) ∧ w9.cell? ⟨B3, 4, none⟩ = some (.string s) ∧ w9.cell? ⟨B3, 5, none⟩ = some (.slice da n2 dc))
    ((refine (fun hg => ⟨hg, (hS _ hg).1, (hS _ hg).2.1, (hS _ hg).2.2.1, (hS _ hg).2.2.2.1, (hS _ hg).2.2.2.2.1, (hS _ hg).2.2.2.2.2.1, (hS3 _ hg).1, (hS3 _ hg).2.1, (hS3 _ hg).2.2.1, (hS3 _ hg).2.2.2.1, (hS3 _ hg).2.2.2.2.1, (hS3 _ hg).2.2.2.2.2.1⟩) ?_; (repeat (first | with_reducible exact Gr.refl _ | with_reducible assumption | with_reducible refine Gr.setCell ?_ (by simp; try omega) _ | with_reducible refine Gr.alloc ?_ _ | with_reducible refine Gr.drew ?_ | with_reducible refine Gr.drewN ?_ _ | with_reducible refine Gr.trans ?_ (by assumption)))))
    (first
      | (go_at_call 11; (with_reducible refine (K.rcheck _ ?_).mono ?_); ((repeat (first | with_reducible exact Gr.refl _ | with_reducible assumption | with_reducible refine Gr.setCell ?_ (by simp; try omega) _ | with_reducible refine Gr.alloc ?_ _ | with_reducible refine Gr.drew ?_ | with_reducible refine Gr.drewN ?_ _ | with_reducible refine Gr.trans ?_ (by assumption)))); rintro e w5 ⟨rfl, hg5⟩)
      | (go_at_call 13; (with_reducible refine (K.told _ _ _ _ _).mono ?_); rintro e w6 ⟨rfl, hg6⟩)
      | (go_at_call 12; (with_reducible refine (K.same _ _ _ _ _ (hO3.gr ?_) ?_).mono ?_); ((repeat (first | with_reducible exact Gr.refl _ | with_reducible assumption | with_reducible refine Gr.setCell ?_ (by simp; try omega) _ | with_reducible refine Gr.alloc ?_ _ | with_reducible refine Gr.drew ?_ | with_reducible refine Gr.drewN ?_ _ | with_reducible refine Gr.trans ?_ (by assumption)))); rintro e w7 ⟨rfl, hg7⟩))
  have hg37 : Gr w3 w7 := by (repeat (first | with_reducible exact Gr.refl _ | with_reducible assumption | with_reducible refine Gr.setCell ?_ (by simp; try omega) _ | with_reducible refine Gr.alloc ?_ _ | with_reducible refine Gr.drew ?_ | with_reducible refine Gr.drewN ?_ _ | with_reducible refine Gr.trans ?_ (by assumption)))
  clear hg4 hg5 hg6 hg7
  have K2 := fun (h0 : r = 0) (W : World) (hg : Gr w3 W) (eight : Bool) => K.rbytes h0 W (hgw.trans hg) eight
  have K3 := fun (W : World) (hg : Gr w3 W) (eight : Bool) => K.bytes W pa pc da dc (hO3.gr hg) (hgw.trans hg) eight
  go_wp2_with fail
  obtain ⟨g8, hg8⟩ : ∃ g, g = w7.heap.size := ⟨_, rfl⟩
  have hbo := heap_alloc_new w7 (.cells #[.bool false, .bool true] 4)
  have hg78 : Gr w3 (w7.alloc (.cells #[.bool false, .bool true] 4)) := hg37.alloc _
  obtain ⟨w8, hw8⟩ : ∃ w8, w8 = w7.alloc (.cells #[.bool false, .bool true] 4) := ⟨_, rfl⟩
  rw [← hw8, ← hg8] at hbo
  rw [← hw8] at hg78
  rw [← hw8, ← hg8]
  clear hw8 hg8
  clear hg37
  go_loopw [28] (fun iv wr => ∃ j : Nat, j ≤ 2 ∧ iv = .int .i64 (j : Int) ∧ Gr w3 wr ∧ wr.heap[g8]? = some (.cells #[.bool false, .bool true] 4 (0, 0))) (fun iv _ => 2 - (intOf iv).toNat)
  case atStart => exact ⟨0, by omega, rfl, hg78, hbo⟩
  case round =>
    clear hbo hg78
    obtain ⟨j, hj, rfl, hgr, hbo⟩ := hrel
    have z0 := cell_of_row hbo 0 _ rfl
    have z1 := cell_of_row hbo 1 _ rfl
    rcases (by omega : j = 2 ∨ j = 0 ∨ j = 1) with rfl | hj01
    · clear z0 z1 hj
      obtain ⟨y0, y1, y2, y3, y4, y5, yf⟩ := hS _ hgr
      obtain ⟨t0, t1, t2, t3, t4, t5, tf⟩ := hS3 _ hgr
      clear y0 y1 y2 y3 y4 y5 yf t0 t1 t2 t3 t4 t5 tf
      go_upto_region 14 with (fail)
      go_region_held3 (fun w9 => Gr w3 w9 ∧ w9.cell? ⟨w.heap.size, 0, none⟩ = some (.int .i64 k) ∧ w9.cell? ⟨w.heap.size, 1, none⟩ = some (.int .u8 c) ∧ w9.cell? ⟨w.heap.size, 2, none⟩ = some (.int .u8 m) ∧ w9.cell? ⟨w.heap.size, 3, none⟩ = some (.slice a1 n1 c1) ∧ w9.cell? ⟨w.heap.size, 4, none⟩ = some (.string s) ∧ w9.cell? ⟨w.heap.size, 5, none⟩ = some (.slice a2 n2 c2) ∧ w9.cell? ⟨B3, 0, none⟩ = some (.int .i64 k) ∧ w9.cell? ⟨B3, 1, none⟩ = some (.int .u8 c) ∧ w9.cell? ⟨B3, 2, none⟩ = some (.int .u8 m) ∧ w9.cell? ⟨B3, 3, none⟩ = some (.slice pa n1 pc) ∧ w9.cell? ⟨B3, 4, none⟩ = some (.string s) ∧ w9.cell? ⟨B3, 5, none⟩ = some (.slice da n2 dc))
        ((refine (fun hg => ⟨hg, (hS _ hg).1, (hS _ hg).2.1, (hS _ hg).2.2.1, (hS _ hg).2.2.2.1, (hS _ hg).2.2.2.2.1, (hS _ hg).2.2.2.2.2.1, (hS3 _ hg).1, (hS3 _ hg).2.1, (hS3 _ hg).2.2.1, (hS3 _ hg).2.2.2.1, (hS3 _ hg).2.2.2.2.1, (hS3 _ hg).2.2.2.2.2.1⟩) ?_; (repeat (first | with_reducible exact Gr.refl _ | with_reducible assumption | with_reducible refine Gr.setCell ?_ (by simp; try omega) _ | with_reducible refine Gr.alloc ?_ _ | with_reducible refine Gr.drew ?_ | with_reducible refine Gr.drewN ?_ _ | with_reducible refine Gr.trans ?_ (by assumption)))))
        (first
          | (go_at_call 16; (with_reducible refine (K.id _ _ _ _ _).mono ?_); rintro e w9 ⟨rfl, hg9⟩)
          | (go_at_call 17; (with_reducible refine (K.rid _).mono ?_); rintro e w10 ⟨rfl, hg10⟩))
      all_goals
        go_wp2_with fail
        go_ret
        exact ⟨rfl, by (repeat (first | with_reducible exact Gr.refl _ | with_reducible assumption | with_reducible refine Gr.setCell ?_ (by simp; try omega) _ | with_reducible refine Gr.alloc ?_ _ | with_reducible refine Gr.drew ?_ | with_reducible refine Gr.drewN ?_ _ | with_reducible refine Gr.trans ?_ (by assumption)))⟩
    · obtain ⟨eight, he, heq⟩ : ∃ eight : Bool, (wr.cell? ⟨g8, j, none⟩ = some (.bool eight)) ∧ True := by
        rcases hj01 with rfl | rfl
        · exact ⟨false, z0, trivial⟩
        · exact ⟨true, z1, trivial⟩
      have hj2 : (j : Int) < 2 := by omega
      have hj0 : (0 : Int) ≤ (j : Int) := by omega
      have hjn : j < 2 := by omega
      clear z0 z1 hj01
      all_goals
        obtain ⟨t0, t1, t2, t3, t4, t5, tf⟩ := hS3 _ hgr
        by_cases h0 : r = 0
        · have K2a := K2 h0
          clear K2
          subst h0
          go_upto_region 11 with (go_at_call 14; (with_reducible refine (K3 _ hgr _).mono ?_); rintro e w9 ⟨va, n, vc, rfl, hrow, hg9⟩; rw [if_pos rfl] at hrow)
          have hg39 := hgr.trans hg9
          have hbo9 := hg9.blk hbo
          clear t0 t1 t2 t3 t4 t5 tf
          have hcv := fun (W : World) (hg : Gr w9 W) => conv_row (hrow.gr hg)
          obtain ⟨X, hX⟩ : ∃ X, X = strOf (bytesR T eight) := ⟨_, rfl⟩
          rw [← hX] at hcv
          have HX := Lib.hid hX
          have HCV := Lib.hid hcv
          have HS := Lib.hid hS
          have HK2 := Lib.hid K2a
          clear hX hcv hrow hS hS3 K3 K2a hO3 hb3 hB1 hB2 hbz heq he K
          refine wp_region_facts6 (ckF k c m a1 n1 c1 s a2 n2 c2 va n vc X eight (bytesR T eight)) (Gr w9) (by kernel_rfl) (by kernel_rfl) (by kernel_rfl) ((Gr.refl _).drew) ?_ ?_
          · intro hap
            refine Steps.cons1 1 rfl rfl ?_ (Steps.cons1 2 rfl rfl ?_ (Steps.cons1 3 rfl rfl ?_ (Steps.cons1 4 rfl rfl ?_ (Steps.consY 5 rfl 3 false rfl hap (by kernel_rfl) ?_ ?_ (Steps.consY 6 rfl 3 false rfl hap (by kernel_rfl) ?_ ?_ (Steps.consY 7 rfl 3 false rfl hap (by kernel_rfl) ?_ ?_ (Steps.consN 8 rfl 6 true rfl hap (by kernel_rfl) ?_ ?_ (Steps.consN 9 rfl 6 true rfl hap (by kernel_rfl) ?_ ?_ (Steps.consN 10 rfl 6 true rfl hap (by kernel_rfl) ?_ ?_ (Steps.consY 11 rfl 3 false rfl hap (by kernel_rfl) ?_ ?_ (Steps.cons1 12 rfl rfl ?_ (Steps.cons1 13 rfl rfl ?_ (Steps.consY 14 rfl 12 false rfl hap (by kernel_rfl) ?_ ?_ (Steps.consY 15 rfl 12 false rfl hap (by kernel_rfl) ?_ ?_ (Steps.consY 16 rfl 12 false rfl hap (by kernel_rfl) ?_ ?_ (Steps.consY 17 rfl 15 true rfl hap (by kernel_rfl) ?_ ?_ (Steps.consY 18 rfl 15 true rfl hap (by kernel_rfl) ?_ ?_ (Steps.consY 19 rfl 15 true rfl hap (by kernel_rfl) ?_ ?_ (Steps.consY 20 rfl 15 true rfl hap (by kernel_rfl) ?_ ?_ (Steps.consY 21 rfl 15 true rfl hap (by kernel_rfl) ?_ ?_ (Steps.consY 22 rfl 15 true rfl hap (by kernel_rfl) ?_ ?_ (Steps.consY 23 rfl 15 true rfl hap (by kernel_rfl) ?_ ?_ (Steps.consY 24 rfl 12 false rfl hap (by kernel_rfl) ?_ ?_ (Steps.cons1 25 rfl rfl ?_ (Steps.nil)))))))))))))))))))))))))
            · (intro ys w' hB hP K hK; simp only [Preds, Region.binds, ckF, forall_const, and_true, true_and] at hP; simp only [fillA]; go_simp; (have h2 := fun v => hK v w' hB); simp only [ckF, forall_eq] at h2; (have h2 := h2 (fun _ _ _ h => h)); simp [fillA, Act.put, hP] at h2; exact h2)
            · (intro ys w' hB hP K hK; simp only [Preds, Region.binds, ckF, forall_const, and_true, true_and] at hP; simp only [fillA]; go_simp; (have h2 := fun v => hK v w' hB); simp only [ckF, forall_eq] at h2; (have h2 := h2 (fun _ _ _ h => h)); simp [fillA, Act.put, hP] at h2; exact h2)
            · (intro ys w' hB hP K hK; simp only [Preds, Region.binds, ckF, forall_const, and_true, true_and] at hP; simp only [fillA]; go_simp; (have h2 := fun v => hK v w' hB); simp only [ckF, forall_eq] at h2; (have h2 := h2 (fun _ _ _ h => h)); simp [fillA, Act.put, hP] at h2; exact h2)
            · (intro ys w' hB hP K hK; simp only [Preds, Region.binds, ckF, forall_const, and_true, true_and] at hP; simp only [fillA]; go_simp; (have h2 := fun v => hK v w' hB); simp only [ckF, forall_eq] at h2; (have h2 := h2 (fun _ _ _ h => h)); simp [fillA, Act.put, hP] at h2; exact h2)
            · (intro ys w' hB hP; simp only [Preds, Region.binds, ckF, forall_const, and_true, true_and] at hP; simp [hP])
            · (intro ys w' hB hP K hK; simp only [Preds, Region.binds, ckF, forall_const, and_true, true_and] at hP; simp only [fillA]; go_simp; (have h2 := fun v => hK v w' hB); simp only [ckF, forall_eq] at h2; (have h2 := h2 (fun _ _ _ h => h)); simp [fillA, Act.put, hP] at h2; exact h2)
            · (intro ys w' hB hP; simp only [Preds, Region.binds, ckF, forall_const, and_true, true_and] at hP; simp [hP])
            · (intro ys w' hB hP K hK; simp only [Preds, Region.binds, ckF, forall_const, and_true, true_and] at hP; simp only [fillA]; go_simp; (have h2 := fun v => hK v w' hB); simp only [ckF, forall_eq] at h2; (have h2 := h2 (fun _ _ _ h => h)); simp [fillA, Act.put, hP] at h2; exact h2)
            · (intro ys w' hB hP; simp only [Preds, Region.binds, ckF, forall_const, and_true, true_and] at hP; simp [hP])
            · (intro ys w' hB hP K hK; simp only [Preds, Region.binds, ckF, forall_const, and_true, true_and] at hP; simp only [fillA]; go_simp; (have h2 := fun v => hK v w' hB); simp only [ckF, forall_eq] at h2; (have h2 := h2 (fun _ _ _ h => h)); simp [fillA, Act.put, hP] at h2; exact h2)
            · (intro ys w' hB hP; simp only [Preds, Region.binds, ckF, forall_const, and_true, true_and] at hP; simp [hP])
            · exact fun _ => trivial
            · (intro ys w' hB hP; simp only [Preds, Region.binds, ckF, forall_const, and_true, true_and] at hP; simp [hP])
            · exact fun _ => trivial
            · (intro ys w' hB hP; simp only [Preds, Region.binds, ckF, forall_const, and_true, true_and] at hP; simp [hP])
            · exact fun _ => trivial
            · (intro ys w' hB hP; simp only [Preds, Region.binds, ckF, forall_const, and_true, true_and] at hP; simp [hP])
            · (intro ys w' hB hP K hK; simp only [Preds, Region.binds, ckF, forall_const, and_true, true_and] at hP; simp only [fillA]; go_simp; (have h2 := fun v => hK v w' hB); simp only [ckF, forall_eq] at h2; (have h2 := h2 (fun _ _ _ h => h)); simp [fillA, Act.put, hP] at h2; exact h2)
            · (intro ys w' hB hP K hK; simp only [Preds, Region.binds, ckF, forall_const, and_true, true_and] at hP; simp only [fillA]; go_simp; (have h2 := fun v => hK v w' hB); simp only [ckF, forall_eq] at h2; (have h2 := h2 (fun _ _ _ h => h)); simp [fillA, Act.put, hP] at h2; exact h2)
            · (intro ys w' hB hP K hK; simp only [Preds, Region.binds, ckF, forall_const, and_true, true_and] at hP; simp only [fillA]; go_simp; (have h2 := fun v => hK v w' hB); simp only [ckF, forall_eq] at h2; (have h2 := h2 (fun _ _ _ h => h)); simp [fillA, Act.put, hP] at h2; exact h2)
            · (intro ys w' hB hP; simp only [Preds, Region.binds, ckF, forall_const, and_true, true_and] at hP; simp [hP])
            · (intro ys w' hB hP K hK; simp only [Preds, Region.binds, ckF, forall_const, and_true, true_and] at hP; simp only [fillA]; go_simp; (have h2 := fun v => hK v w' hB); simp only [ckF, forall_eq] at h2; (have h2 := h2 (fun _ _ _ h => h)); simp [fillA, Act.put, hP] at h2; exact h2)
            · (intro ys w' hB hP; simp only [Preds, Region.binds, ckF, forall_const, and_true, true_and] at hP; simp [hP])
            · (intro ys w' hB hP K hK; simp only [Preds, Region.binds, ckF, forall_const, and_true, true_and] at hP; simp only [fillA]; go_simp; (have h2 := fun v => hK v w' hB); simp only [ckF, forall_eq] at h2; (have h2 := h2 (fun _ _ _ h => h)); simp [fillA, Act.put, hP] at h2; exact h2)
            · (intro ys w' hB hP; simp only [Preds, Region.binds, ckF, forall_const, and_true, true_and] at hP; simp [hP])
            · (intro ys w' hB hP K hK; simp only [Preds, Region.binds, ckF, forall_const, and_true, true_and] at hP; simp only [fillA]; go_simp; (have h2 := fun v => hK v w' hB); simp only [ckF, forall_eq] at h2; (have h2 := h2 (fun _ _ _ h => h)); simp [fillA, Act.put, hP] at h2; exact h2)
            · (intro ys w' hB hP; simp only [Preds, Region.binds, ckF, forall_const, and_true, true_and] at hP; simp [hP])
            · (intro ys w' hB hP K hK; simp only [Preds, Region.binds, ckF, forall_const, and_true, true_and] at hP; simp only [fillA]; go_simp; (have h2 := fun v => hK v w' hB); simp only [ckF, forall_eq] at h2; (have h2 := h2 (fun _ _ _ h => h)); simp [fillA, Act.put, hP] at h2; exact h2)
            · (intro ys w' hB hP; simp only [Preds, Region.binds, ckF, forall_const, and_true, true_and] at hP; simp [hP])
            · (intro ys w' hB hP; simp only [Preds, Region.binds, ckF, forall_const, and_true, true_and] at hP)
              have hcv := HCV.out w' hB
              intro K hK
              simp only [fillA]
              go_simp
              have h2 := hK _ w' hB rfl (fun j u _ h => h)
              simp [fillA, Act.put, hP] at h2
              exact h2
            · (intro ys w' hB hP; simp only [Preds, Region.binds, ckF, forall_const, and_true, true_and] at hP; simp [hP])
            · (intro ys w' hB hP; simp only [Preds, Region.binds, ckF, forall_const, and_true, true_and] at hP)
              obtain ⟨q0, q1, q2, q3, q4, q5, qf⟩ := HS.out _ (hg39.trans hB)
              intro K hK
              simp only [fillA]
              go_simp
              have h2 := hK _ w' hB rfl (fun j u _ h => h)
              simp [fillA, Act.put, hP] at h2
              exact h2
            · (intro ys w' hB hP; simp only [Preds, Region.binds, ckF, forall_const, and_true, true_and] at hP; simp [hP])
            · (intro ys w' hB hP K hK; simp only [Preds, Region.binds, ckF, forall_const, and_true, true_and] at hP; simp only [fillA]; go_simp; (have h2 := fun v => hK v w' hB); simp only [ckF, forall_eq] at h2; (have h2 := h2 (fun _ _ _ h => h)); simp [fillA, Act.put, hP] at h2; exact h2)
            · (intro ys w' hB hP; simp only [Preds, Region.binds, ckF, forall_const, and_true, true_and] at hP; simp [hP])
            · (intro ys w' hB hP; simp only [Preds, Region.binds, ckF, forall_const, and_true, true_and] at hP)
              intro K hK
              simp only [fillA]
              go_simp
              (with_reducible refine (HK2.out _ (hg39.trans hB) _).mono ?_)
              rintro e w10 ⟨v2, rfl, hrow2, hg10⟩
              obtain ⟨va2, vc2, rfl⟩ := hrow2.form
              have h2 := hK _ w10 (hB.trans hg10) ⟨va2, _, vc2, rfl, hrow2⟩ (fun j u _ h => h.gr hg10)
              simp [fillA, Act.put, hP] at h2
              exact h2
            · (intro ys w' hB hP; simp only [Preds, Region.binds, ckF, forall_const, and_true, true_and] at hP; simp [hP])
            · (intro ys w' hB hP; simp only [Preds, Region.binds, ckF, forall_const, and_true, true_and] at hP)
              obtain ⟨va2, n2', vc2, hy, hrow2⟩ : ∃ va n vc, ys 20 = .slice va n vc ∧ HasRow w' 5 (.slice va n vc) n (bcells (bytesR T eight)) := by first | exact hP | exact hP.1 | exact hP.2
              have h15 : ys 15 = .bool true := by first | exact hP.1 | exact hP.2 | exact hP.2.1
              clear hP
              have hcv2 := conv_row hrow2
              rw [← HX.out] at hcv2
              intro K hK
              simp only [fillA]
              go_simp
              have h2 := hK _ w' hB rfl (fun j u _ h => h)
              simp [fillA, Act.put, hy, h15] at h2
              exact h2
            · (intro ys w' hB hP; simp only [Preds, Region.binds, ckF, forall_const, and_true, true_and] at hP; simp [hP])
            · (intro ys w' hB hP K hK; simp only [Preds, Region.binds, ckF, forall_const, and_true, true_and] at hP; simp only [fillA]; go_simp; (have h2 := fun v => hK v w' hB); simp only [ckF, forall_eq] at h2; (have h2 := h2 (fun _ _ _ h => h)); simp [fillA, Act.put, hP] at h2; exact h2)
            · (intro ys w' hB hP; simp only [Preds, Region.binds, ckF, forall_const, and_true, true_and] at hP; simp [hP])
            · (intro ys w' hB hP K hK; simp only [Preds, Region.binds, ckF, forall_const, and_true, true_and] at hP; simp only [fillA]; go_simp; (have h2 := fun v => hK v w' hB); simp only [ckF, forall_eq] at h2; (have h2 := h2 (fun _ _ _ h => h)); simp [fillA, Act.put, hP] at h2; exact h2)
            · (intro ys w' hB hP K hK; simp only [Preds, Region.binds, ckF, forall_const, and_true, true_and] at hP; simp only [fillA]; go_simp; (have h2 := fun v => hK v w' hB); simp only [ckF, forall_eq] at h2; (have h2 := h2 (fun _ _ _ h => h)); simp [fillA, Act.put, hP] at h2; exact h2)
          · intro ys w10 hB hF
            have f24 : ys 24 = .bool false := hF 24 (by decide)
            have f16 : ys 16 = .slice va n vc := hF 16 (by decide)
            clear hF
            simp only [fillA, f24, Act.put, Nat.zero_add, List.setIfInBounds_toArray, List.set_cons_zero, List.set_cons_succ]
            clear f24 f16
            go_wp2_with fail
            go_roundw
            case rel => exact ⟨j + 1, by omega, by go_num, hg39.trans hB, hB.blk hbo9⟩
            case measure => simp [intOf]; omega
        · have hb1 : (r != 0) = true := by simpa using h0
          have hb2 : (r == 0) = false := by simpa using h0
          go_upto_region 11 with (go_at_call 14; (with_reducible refine (K3 _ hgr _).mono ?_); rintro e w9 ⟨va, n, vc, rfl, hrow, hg9⟩; rw [if_neg h0] at hrow)
          have hn0 : n = 0 := by have := hrow.1; simpa [bcells] using this.symm
          subst hn0
          have hg39 := hgr.trans hg9
          have hbo9 := hg9.blk hbo
          clear t0 t1 t2 t3 t4 t5 tf hrow hS hS3 K2 K3 K hO3 hb3 he heq h0
          go_quiet (fail)
          go_wp2_with fail
          go_roundw
          case rel => exact ⟨j + 1, by omega, by go_num, hg39.trans (by (repeat (first | with_reducible exact Gr.refl _ | with_reducible assumption | with_reducible refine Gr.setCell ?_ (by simp; try omega) _ | with_reducible refine Gr.alloc ?_ _ | with_reducible refine Gr.drew ?_ | with_reducible refine Gr.drewN ?_ _ | with_reducible refine Gr.trans ?_ (by assumption)))), Gr.blk (by (repeat (first | with_reducible exact Gr.refl _ | with_reducible assumption | with_reducible refine Gr.setCell ?_ (by simp; try omega) _ | with_reducible refine Gr.alloc ?_ _ | with_reducible refine Gr.drew ?_ | with_reducible refine Gr.drewN ?_ _ | with_reducible refine Gr.trans ?_ (by assumption)))) hbo9⟩
          case measure => simp [intOf]; omega
end Go.Proofs.YtgbmjlajheeciaaDoor
