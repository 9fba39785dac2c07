/-
  Answers with a sum, the unit's number, one character.
-/
import Derived.Outline
import Derived.Test.YtjfffkaifcajbaaDoorZRyH
import Derived.Test.YtjfffkaifcajbaaDoorZRyB
namespace Go.Proofs.YtjfffkaifcajbaaDoor
set_option linter.unusedSimpArgs false
set_option linter.unusedVariables false
open Go.RowKit
set_option linter.unusedVariables false

def bints (l : List UInt8) : List Int := l.map fun b => (b.toNat : Int)
theorem nums_bsl (l : List UInt8) : nums (bsl l) = bints l := by unfold nums bints; rw [bsl_list]
def sumD (sum : Int) : List Int := bints [digB ((sum % 65536).toNat / 4096), digB ((sum % 65536).toNat / 256 % 16), digB ((sum % 65536).toNat / 16 % 16), digB ((sum % 65536).toNat % 16)]
theorem hex_two (a b : UInt8) : hexB [a, b] = [digB (a.toNat / 16), digB (a.toNat % 16), digB (b.toNat / 16), digB (b.toNat % 16)] := rfl
theorem sum_hex {sum : Int} {a b : UInt8} (ha : (a.toNat : Int) = sum / 256 % 256) (hb : (b.toNat : Int) = sum % 256) : bints (hexB [a, b]) = sumD sum := by
  rw [hex_two]
  unfold sumD
  rw [show a.toNat / 16 = (sum % 65536).toNat / 4096 by omega, show a.toNat % 16 = (sum % 65536).toNat / 256 % 16 by omega, show b.toNat / 16 = (sum % 65536).toNat / 16 % 16 by omega, show b.toNat % 16 = (sum % 65536).toNat % 16 by omega]
theorem strOf_two (a b : Int) : strOf [a, b] = bsl [UInt8.ofNat a.toNat, UInt8.ofNat b.toNat] := rfl
theorem u8_natI {a : Int} (h : 0 ≤ a ∧ a < 256) : ((UInt8.ofNat a.toNat).toNat : Int) = a := by rw [UInt8.toNat_ofNat']; omega
theorem conv2 (a b : Int) (W : World) : (convert 30 9 (.slice (some ⟨W.heap.size, 0, none⟩) 2 2)).run Tryd.prog (W.alloc (.cells #[.int .u8 a, .int .u8 b] 5)) = .ok (.string (strOf [a, b])) (W.alloc (.cells #[.int .u8 a, .int .u8 b] 5)) := conv_new W [a, b] 2 rfl
theorem conv4 (a b c d : Int) (W : World) : (convert 30 9 (.slice (some ⟨W.heap.size, 0, none⟩) 4 4)).run Tryd.prog (W.alloc (.cells #[.int .u8 a, .int .u8 b, .int .u8 c, .int .u8 d] 5)) = .ok (.string (strOf [a, b, c, d])) (W.alloc (.cells #[.int .u8 a, .int .u8 b, .int .u8 c, .int .u8 d] 5)) := conv_new W [a, b, c, d] 4 rfl
set_option maxRecDepth 100000 in
set_option maxHeartbeats 1000000 in
theorem sum_any {w : World} (eight : Bool) (id sum : Int) (hT : tabT w) (h0 : -9223372036854775808 ≤ sum) (h1 : sum ≤ 9223372036854775807) : Calls Tryd.prog 22 #[.bool eight, .int .i64 id, .int .i64 sum] w (AnsOwn w (dcsR [33, 126] (sumD sum) [id] eight)) := by
  have L := lits (w := w) ⟨#[33, 126]⟩ [33, 126] eight rfl (by decide) hT
  have k2 := conv2
  have ea := u8_natI (a := sum / 256 % 256) (by omega)
  have eb := u8_natI (a := sum % 256) (by omega)
  have hsd := sum_hex ea eb
  obtain ⟨d, hd⟩ : ∃ d, d = bsl (hexB [UInt8.ofNat (sum / 256 % 256).toNat, UInt8.ofNat (sum % 256).toNat]) := ⟨_, rfl⟩
  have hx : ∀ W : World, Calls Tryd.prog 9 #[.string (strOf [sum / 256 % 256, sum % 256])] W fun e w' => e = .returned (.string d) ∧ Gr W w' := by
    intro W
    rw [strOf_two, hd]
    exact hex_any _ W (by simp)
  have hnd : nums d = sumD sum := by rw [hd, nums_bsl]; exact hsd
  rw [← hnd]
  clear ea eb hsd hd hnd
  go_enter Tryd.func22, Tryd.ntmps22
  go_wp2_with (first
    | (go_at_call 9; (with_reducible refine (hx _).mono ?_); rintro e w1 ⟨rfl, hg1⟩; have hgW := (((Gr.refl w).alloc (.cells #[.int .u8 (sum / 256 % 256), .int .u8 (sum % 256)] 5)).trans hg1).alloc (.cells #[.int .i64 id] 3))
    | (go_at_call 27; (with_reducible refine (L.d1 _ _ _ _ hgW (heap_alloc_new _ _)).mono ?_); rintro e w2 ⟨va, vc, rfl, hO, hg⟩))
  go_ret
  exact ⟨va, vc, rfl, World.ownsRow.mono hO hgW.size, hgW.trans hg⟩
theorem hexI (x : Int) (h : 0 ≤ x ∧ x < 16) (w : World) : Calls Tryd.prog 34 #[.int .i64 x] w fun e w' => e = .returned (.int .u8 ((digB x.toNat).toNat : Int)) ∧ w = w' := by
  have := hexd_any x.toNat (by omega) w
  rw [Int.toNat_of_nonneg h.1] at this
  exact this
theorem nums_digs (a b c d : UInt8) : nums (strOf [(a.toNat : Int), (b.toNat : Int), (c.toNat : Int), (d.toNat : Int)]) = bints [a, b, c, d] := by
  have e : strOf [(a.toNat : Int), (b.toNat : Int), (c.toNat : Int), (d.toNat : Int)] = bsl [a, b, c, d] := by
    have := strOf_bytes [a, b, c, d]
    simpa [bsl] using this
  rw [e, nums_bsl]
theorem sum_digs {X sum : Int} (h : X = sum % 65536) : nums (strOf [((digB (X / 4096).toNat).toNat : Int), ((digB (X / 256 % 16).toNat).toNat : Int), ((digB (X / 16 % 16).toNat).toNat : Int), ((digB (X % 16).toNat).toNat : Int)]) = sumD sum := by
  rw [nums_digs]
  unfold sumD
  rw [show (X / 4096).toNat = (sum % 65536).toNat / 4096 by omega, show (X / 256 % 16).toNat = (sum % 65536).toNat / 256 % 16 by omega, show (X / 16 % 16).toNat = (sum % 65536).toNat / 16 % 16 by omega, show (X % 16).toNat = (sum % 65536).toNat % 16 by omega]
set_option maxRecDepth 100000 in
set_option maxHeartbeats 1000000 in
theorem rsum_any {w : World} (eight : Bool) (id sum : Int) (hT : tabT w) (h0 : -9223372036854775808 ≤ sum) (h1 : sum ≤ 9223372036854775807) : Calls Tryd.prog 23 #[.bool eight, .int .i64 id, .int .i64 sum] w (RBOut w (dcsR [33, 126] (sumD sum) [id] eight)) := by
  have L := lits (w := w) ⟨#[33, 126]⟩ [33, 126] eight rfl (by decide) hT
  have k4 := conv4
  obtain ⟨T, hT2⟩ : ∃ T, sum.tmod 65536 = T := ⟨_, rfl⟩
  have hb1 : -65535 ≤ T ∧ T ≤ 65535 := by
    subst hT2
    rcases Int.le_total 0 sum with h | h
    · rw [Int.tmod_eq_emod_of_nonneg h]; omega
    · have e : sum.tmod 65536 = -((-sum).tmod 65536) := by rw [Int.neg_tmod, Int.neg_neg]
      rw [e, Int.tmod_eq_emod_of_nonneg (by omega)]; omega
  obtain ⟨hb1, hb2⟩ := hb1
  have hm : (T < 0 → T + 65536 = sum % 65536) ∧ (¬ T < 0 → T = sum % 65536) := by
    subst hT2
    rcases Int.le_total 0 sum with h | h
    · rw [Int.tmod_eq_emod_of_nonneg h]; omega
    · have e : sum.tmod 65536 = -((-sum).tmod 65536) := by rw [Int.neg_tmod, Int.neg_neg]
      rw [e, Int.tmod_eq_emod_of_nonneg (by omega)]; omega
  have hsz : ∀ a b c d : Int, (strOf [a, b, c, d]).size ≤ 100000 := fun _ _ _ _ => by rw [strOf_size']; show 4 ≤ 100000; omega
  by_cases hneg : T < 0
  · have hsd := sum_digs (hm.1 hneg)
    have HSD := Lib.hid hsd
    clear hsd hm
    go_enter Tryd.func23, Tryd.ntmps23
    go_wp2_with (first
      | (go_at_call 34; (with_reducible refine (hexI _ (by omega) _).mono ?_); rintro e w1 ⟨rfl, rfl⟩)
      | (go_at_call 17; (with_reducible refine (L.e1 _ _ _ _ (hsz _ _ _ _) (((Gr.refl w).alloc _).alloc _) (heap_new2 _ _ _)).mono ?_); rintro e w2 ⟨v, rfl, hv, hg⟩))
    go_ret
    rw [HSD.out] at hv
    exact ⟨v, rfl, hv, (((Gr.refl w).alloc _).alloc _).trans hg⟩
  · have hsd := sum_digs (hm.2 hneg)
    have HSD := Lib.hid hsd
    have hpos : 0 ≤ T := by omega
    clear hsd hm
    go_enter Tryd.func23, Tryd.ntmps23
    go_wp2_with (first
      | (go_at_call 34; (with_reducible refine (hexI _ (by omega) _).mono ?_); rintro e w1 ⟨rfl, rfl⟩)
      | (go_at_call 17; (with_reducible refine (L.e1 _ _ _ _ (hsz _ _ _ _) (((Gr.refl w).alloc _).alloc _) (heap_new2 _ _ _)).mono ?_); rintro e w2 ⟨v, rfl, hv, hg⟩))
    go_ret
    rw [HSD.out] at hv
    exact ⟨v, rfl, hv, (((Gr.refl w).alloc _).alloc _).trans hg⟩
set_option maxRecDepth 100000 in
set_option maxHeartbeats 1000000 in
theorem third_any {w : World} (eight : Bool) (hT : tabT w) : Calls Tryd.prog 16 #[.bool eight] w (AnsOwn w (dcsR [33, 124] [48, 48, 48, 48, 48, 48, 48, 48] [] eight)) := by
  have L := lits (w := w) ⟨#[33, 124]⟩ [33, 124] eight rfl (by decide) hT
  have hx : ∀ W : World, Calls Tryd.prog 9 #[.string ⟨#[0, 0, 0, 0]⟩] W fun e w' => e = .returned (.string ⟨#[48, 48, 48, 48, 48, 48, 48, 48]⟩) ∧ Gr W w' := by
    intro W
    exact hex_any [0, 0, 0, 0] W (by simp)
  have e8 : nums ⟨#[48, 48, 48, 48, 48, 48, 48, 48]⟩ = [48, 48, 48, 48, 48, 48, 48, 48] := rfl
  have E := Lib.hid e8
  clear e8
  go_enter Tryd.func16, Tryd.ntmps16
  go_wp2_with (first
    | (go_at_call 9; (with_reducible refine (hx _).mono ?_); rintro e w1 ⟨rfl, hg1⟩)
    | (go_at_call 27; (with_reducible refine (L.d0 _ _ hg1).mono ?_); rintro e w2 ⟨va, vc, rfl, hO, hg⟩))
  go_ret
  exact ⟨va, vc, rfl, World.ownsRow.mono hO hg1.size, hg1.trans hg⟩

/-- A row of integers that was built whole. -/
theorem own_ilit {w : World} {B g n : Nat} {l : List Int} {cs : Array Value} (hn : l.length = n) (hm : n ≤ 1000) (hc : cs = (icells l).toArray) (h : w.heap[g]? = some (.cells cs 3 (0, 0))) (hB : B ≤ g) : w.ownsRow B 3 1 (.slice (some ⟨g, 0, none⟩) n n) n (icells l) := by
  subst hc
  exact ⟨by rw [icells_len]; omega, .inr ⟨g, n, _, rfl, hB, h, Nat.le_refl _, by unfold maxLen; omega, by simp [icells_len, hn], List.take_of_length_le (by simp [icells_len, hn])⟩⟩
set_option maxRecDepth 100000 in
set_option maxHeartbeats 2000000 in
theorem first_any {w : World} (eight : Bool) (level : Int) (hT : tabT w) : Calls Tryd.prog 12 #[.bool eight, .int .i64 level] w (AnsOwn w (csiR [63, 99] (firstR (clipI level 1 5)) eight)) := by
  have hc := clip5 level
  have hb := clipI_in level 1 5 (by decide)
  obtain ⟨A, hA⟩ : ∃ A, A = clipI level 1 5 := ⟨_, rfl⟩
  rw [← hA] at hc hb ⊢
  clear hA
  have hcs := fun (W : World) (a : Option Addr) (n c : Nat) (ps : List Int) (hg : Gr w W) (h : HasRow W 3 (.slice a n c) n (icells ps)) (hn : n ≤ 100) => csi_any (s := ⟨#[63, 99]⟩) eight h (by omega) (by decide) (hT.gr hg)
  rw [show nums ⟨#[63, 99]⟩ = [63, 99] from rfl] at hcs
  have hA5 : A = 1 ∨ A = 2 ∨ A = 3 ∨ A = 4 ∨ A = 5 := by omega
  clear hb
  rcases hA5 with rfl | rfl | rfl | rfl | rfl
  · have hA := heap_alloc_new w (.cells #[.int .i64 61, .int .i64 1, .int .i64 2, .int .i64 7, .int .i64 8, .int .i64 9] 3)
    have hB := heap_new2 w (.cells #[.int .i64 61, .int .i64 1, .int .i64 2, .int .i64 7, .int .i64 8, .int .i64 9] 3) (.cells #[.int .i64 1, .int .i64 2] 3)
    have hG := ((Gr.refl w).alloc (.cells #[.int .i64 61, .int .i64 1, .int .i64 2, .int .i64 7, .int .i64 8, .int .i64 9] 3)).alloc (.cells #[.int .i64 1, .int .i64 2] 3)
    go_enter Tryd.func12, Tryd.ntmps12
    go_wp2_with (first
      | (go_at_call 36; (with_reducible refine (hc _).mono ?_); rintro e w1 ⟨rfl, rfl⟩)
      | (go_at_call 26; (with_reducible refine (hcs _ _ _ _ [1, 2] hG (hasRow_lit (n := 2) (l := [1, 2]) rfl rfl hB) (by omega)).mono ?_); rintro e w9 ⟨va9, vc9, rfl, hO, hg⟩))
    go_ret
    exact ⟨va9, vc9, rfl, World.ownsRow.mono hO hG.size, hG.trans hg⟩
  · have hA := heap_alloc_new w (.cells #[.int .i64 62, .int .i64 1, .int .i64 2, .int .i64 7, .int .i64 8, .int .i64 9] 3)
    have hG := (Gr.refl w).alloc (.cells #[.int .i64 62, .int .i64 1, .int .i64 2, .int .i64 7, .int .i64 8, .int .i64 9] 3)
    go_enter Tryd.func12, Tryd.ntmps12
    go_wp2_with (first
      | (go_at_call 36; (with_reducible refine (hc _).mono ?_); rintro e w1 ⟨rfl, rfl⟩)
      | (go_at_call 26; (with_reducible refine (hcs _ _ _ _ [62, 1, 2, 7, 8, 9] hG (hasRow_lit (n := 6) (l := [62, 1, 2, 7, 8, 9]) rfl rfl hA) (by omega)).mono ?_); rintro e w9 ⟨va9, vc9, rfl, hO, hg⟩))
    go_ret
    exact ⟨va9, vc9, rfl, World.ownsRow.mono hO hG.size, hG.trans hg⟩
  · have hA := heap_alloc_new w (.cells #[.int .i64 63, .int .i64 1, .int .i64 2, .int .i64 7, .int .i64 8, .int .i64 9] 3)
    have hB := heap_new2 w (.cells #[.int .i64 63, .int .i64 1, .int .i64 2, .int .i64 7, .int .i64 8, .int .i64 9] 3) (.cells #[.int .i64 18, .int .i64 21] 3)
    have hG := ((Gr.refl w).alloc (.cells #[.int .i64 63, .int .i64 1, .int .i64 2, .int .i64 7, .int .i64 8, .int .i64 9] 3)).alloc (.cells #[.int .i64 18, .int .i64 21] 3)
    have hA2 := ((Gr.refl _).alloc (.cells #[.int .i64 18, .int .i64 21] 3)).blk hA
    go_enter Tryd.func12, Tryd.ntmps12
    go_wp2_with (first
      | (go_at_call 36; (with_reducible refine (hc _).mono ?_); rintro e w1 ⟨rfl, rfl⟩)
      | (at_builtin; (refine wpList_addX (w0 := w) rfl _ _ _ _ rfl 3 _ 8 intsT intI rfl _ 6 _ rfl (own_ilit (n := 6) (l := [63, 1, 2, 7, 8, 9]) rfl (by omega) rfl hA2 (Nat.le_refl _)) hG _ 2 [.int .i64 18, .int .i64 21] rfl (src_block intsT _ hB rfl (by simp [Value.oneCell'])) (by unfold maxLen; omega) (by omega) ?_); intro va2 ca2 w2 hown2 hg2 hgb2; have hr2 : HasRow w2 3 (.slice va2 8 ca2) 8 (icells [63, 1, 2, 7, 8, 9, 18, 21]) := HasRow.of_own hown2; have ho2 : w2.ownsRow w.heap.size 3 1 (.slice va2 8 ca2) 8 (icells [63, 1, 2, 7, 8, 9, 18, 21]) := hown2; clear hown2)
      | (go_at_call 26; (with_reducible refine (hcs _ _ _ _ [63, 1, 2, 7, 8, 9, 18, 21] hg2 hr2 (by omega)).mono ?_); rintro e w9 ⟨va9, vc9, rfl, hO, hg⟩))
    go_ret
    exact ⟨va9, vc9, rfl, World.ownsRow.mono hO hg2.size, hg2.trans hg⟩
  · have hA := heap_alloc_new w (.cells #[.int .i64 64, .int .i64 1, .int .i64 2, .int .i64 7, .int .i64 8, .int .i64 9] 3)
    have hB := heap_new2 w (.cells #[.int .i64 64, .int .i64 1, .int .i64 2, .int .i64 7, .int .i64 8, .int .i64 9] 3) (.cells #[.int .i64 18, .int .i64 21, .int .i64 28, .int .i64 29] 3)
    have hG := ((Gr.refl w).alloc (.cells #[.int .i64 64, .int .i64 1, .int .i64 2, .int .i64 7, .int .i64 8, .int .i64 9] 3)).alloc (.cells #[.int .i64 18, .int .i64 21, .int .i64 28, .int .i64 29] 3)
    have hA2 := ((Gr.refl _).alloc (.cells #[.int .i64 18, .int .i64 21, .int .i64 28, .int .i64 29] 3)).blk hA
    go_enter Tryd.func12, Tryd.ntmps12
    go_wp2_with (first
      | (go_at_call 36; (with_reducible refine (hc _).mono ?_); rintro e w1 ⟨rfl, rfl⟩)
      | (at_builtin; (refine wpList_addX (w0 := w) rfl _ _ _ _ rfl 3 _ 8 intsT intI rfl _ 6 _ rfl (own_ilit (n := 6) (l := [64, 1, 2, 7, 8, 9]) rfl (by omega) rfl hA2 (Nat.le_refl _)) hG _ 4 [.int .i64 18, .int .i64 21, .int .i64 28, .int .i64 29] rfl (src_block intsT _ hB rfl (by simp [Value.oneCell'])) (by unfold maxLen; omega) (by omega) ?_); intro va2 ca2 w2 hown2 hg2 hgb2; have hr2 : HasRow w2 3 (.slice va2 10 ca2) 10 (icells [64, 1, 2, 7, 8, 9, 18, 21, 28, 29]) := HasRow.of_own hown2; have ho2 : w2.ownsRow w.heap.size 3 1 (.slice va2 10 ca2) 10 (icells [64, 1, 2, 7, 8, 9, 18, 21, 28, 29]) := hown2; clear hown2)
      | (go_at_call 26; (with_reducible refine (hcs _ _ _ _ [64, 1, 2, 7, 8, 9, 18, 21, 28, 29] hg2 hr2 (by omega)).mono ?_); rintro e w9 ⟨va9, vc9, rfl, hO, hg⟩))
    go_ret
    exact ⟨va9, vc9, rfl, World.ownsRow.mono hO hg2.size, hg2.trans hg⟩
  · have hA := heap_alloc_new w (.cells #[.int .i64 65, .int .i64 1, .int .i64 2, .int .i64 7, .int .i64 8, .int .i64 9] 3)
    have hB := heap_new2 w (.cells #[.int .i64 65, .int .i64 1, .int .i64 2, .int .i64 7, .int .i64 8, .int .i64 9] 3) (.cells #[.int .i64 18, .int .i64 21, .int .i64 28, .int .i64 29, .int .i64 42, .int .i64 44] 3)
    have hG := ((Gr.refl w).alloc (.cells #[.int .i64 65, .int .i64 1, .int .i64 2, .int .i64 7, .int .i64 8, .int .i64 9] 3)).alloc (.cells #[.int .i64 18, .int .i64 21, .int .i64 28, .int .i64 29, .int .i64 42, .int .i64 44] 3)
    have hA2 := ((Gr.refl _).alloc (.cells #[.int .i64 18, .int .i64 21, .int .i64 28, .int .i64 29, .int .i64 42, .int .i64 44] 3)).blk hA
    go_enter Tryd.func12, Tryd.ntmps12
    go_wp2_with (first
      | (go_at_call 36; (with_reducible refine (hc _).mono ?_); rintro e w1 ⟨rfl, rfl⟩)
      | (at_builtin; (refine wpList_addX (w0 := w) rfl _ _ _ _ rfl 3 _ 8 intsT intI rfl _ 6 _ rfl (own_ilit (n := 6) (l := [65, 1, 2, 7, 8, 9]) rfl (by omega) rfl hA2 (Nat.le_refl _)) hG _ 6 [.int .i64 18, .int .i64 21, .int .i64 28, .int .i64 29, .int .i64 42, .int .i64 44] rfl (src_block intsT _ hB rfl (by simp [Value.oneCell'])) (by unfold maxLen; omega) (by omega) ?_); intro va2 ca2 w2 hown2 hg2 hgb2; have hr2 : HasRow w2 3 (.slice va2 12 ca2) 12 (icells [65, 1, 2, 7, 8, 9, 18, 21, 28, 29, 42, 44]) := HasRow.of_own hown2; have ho2 : w2.ownsRow w.heap.size 3 1 (.slice va2 12 ca2) 12 (icells [65, 1, 2, 7, 8, 9, 18, 21, 28, 29, 42, 44]) := hown2; clear hown2)
      | (go_at_call 26; (with_reducible refine (hcs _ _ _ _ [65, 1, 2, 7, 8, 9, 18, 21, 28, 29, 42, 44] hg2 hr2 (by omega)).mono ?_); rintro e w9 ⟨va9, vc9, rfl, hO, hg⟩))
    go_ret
    exact ⟨va9, vc9, rfl, World.ownsRow.mono hO hg2.size, hg2.trans hg⟩
set_option maxRecDepth 100000 in
set_option maxHeartbeats 2000000 in
theorem rfirst_any {w : World} (eight : Bool) (level : Int) (hT : tabT w) : Calls Tryd.prog 13 #[.bool eight, .int .i64 level] w (RBOut w (csiR [63, 99] (firstR (clipI level 1 5)) eight)) := by
  have hcs := fun (W : World) (a : Option Addr) (n c : Nat) (ps : List Int) (hg : Gr w W) (h : HasRow W 3 (.slice a n c) n (icells ps)) (hn : n ≤ 100) => rcsi_any (s := ⟨#[63, 99]⟩) eight h (by omega) (by decide)
  rw [show nums ⟨#[63, 99]⟩ = [63, 99] from rfl] at hcs
  have hA5 : (level ≤ 1 ∧ clipI level 1 5 = 1) ∨ level = 2 ∨ level = 3 ∨ level = 4 ∨ level = 5 ∨ (5 < level ∧ clipI level 1 5 = 5) := by unfold clipI; split <;> (try split) <;> omega
  rcases hA5 with ⟨hl, he⟩ | rfl | rfl | rfl | rfl | ⟨hl, he⟩ <;> (try rw [he]; clear he)
  · have hB := heap_alloc_new w (.cells #[.int .i64 1, .int .i64 2] 3)
    have hG := (Gr.refl w).alloc (.cells #[.int .i64 1, .int .i64 2] 3)
    go_enter Tryd.func13, Tryd.ntmps13
    go_wp2_with (first
      | (go_at_call 15; (with_reducible refine (hcs _ _ _ _ [1, 2] hG (hasRow_lit (n := 2) (l := [1, 2]) rfl rfl hB) (by omega)).mono ?_); rintro e w9 ⟨v9, rfl, hv, hg⟩))
    go_ret
    exact ⟨v9, rfl, hv, hG.trans hg⟩
  · have hA := heap_alloc_new w (.cells #[.int .i64 62, .int .i64 1, .int .i64 2, .int .i64 7, .int .i64 8, .int .i64 9] 3)
    have hG := (Gr.refl w).alloc (.cells #[.int .i64 62, .int .i64 1, .int .i64 2, .int .i64 7, .int .i64 8, .int .i64 9] 3)
    go_enter Tryd.func13, Tryd.ntmps13
    go_wp2_with (first
      | (go_at_call 15; (with_reducible refine (hcs _ _ _ _ [62, 1, 2, 7, 8, 9] hG (hasRow_lit (n := 6) (l := [62, 1, 2, 7, 8, 9]) rfl rfl hA) (by omega)).mono ?_); rintro e w9 ⟨v9, rfl, hv, hg⟩))
    go_ret
    exact ⟨v9, rfl, hv, hG.trans hg⟩
  · have hA := heap_alloc_new w (.cells #[.int .i64 63, .int .i64 1, .int .i64 2, .int .i64 7, .int .i64 8, .int .i64 9] 3)
    have hB := heap_new2 w (.cells #[.int .i64 63, .int .i64 1, .int .i64 2, .int .i64 7, .int .i64 8, .int .i64 9] 3) (.cells #[.int .i64 18, .int .i64 21] 3)
    have hG := ((Gr.refl w).alloc (.cells #[.int .i64 63, .int .i64 1, .int .i64 2, .int .i64 7, .int .i64 8, .int .i64 9] 3)).alloc (.cells #[.int .i64 18, .int .i64 21] 3)
    have hA2 := ((Gr.refl _).alloc (.cells #[.int .i64 18, .int .i64 21] 3)).blk hA
    go_enter Tryd.func13, Tryd.ntmps13
    go_wp2_with (first
      | (at_builtin; (refine wpList_addX (w0 := w) rfl _ _ _ _ rfl 3 _ 8 intsT intI rfl _ 6 _ rfl (own_ilit (n := 6) (l := [63, 1, 2, 7, 8, 9]) rfl (by omega) rfl hA2 (Nat.le_refl _)) hG _ 2 [.int .i64 18, .int .i64 21] rfl (src_block intsT _ hB rfl (by simp [Value.oneCell'])) (by unfold maxLen; omega) (by omega) ?_); intro va2 ca2 w2 hown2 hg2 hgb2; have hr2 : HasRow w2 3 (.slice va2 8 ca2) 8 (icells [63, 1, 2, 7, 8, 9, 18, 21]) := HasRow.of_own hown2; have ho2 : w2.ownsRow w.heap.size 3 1 (.slice va2 8 ca2) 8 (icells [63, 1, 2, 7, 8, 9, 18, 21]) := hown2; clear hown2)
      | (go_at_call 15; (with_reducible refine (hcs _ _ _ _ [63, 1, 2, 7, 8, 9, 18, 21] hg2 hr2 (by omega)).mono ?_); rintro e w9 ⟨v9, rfl, hv, hg⟩))
    go_ret
    exact ⟨v9, rfl, hv, hg2.trans hg⟩
  · have hA := heap_alloc_new w (.cells #[.int .i64 64, .int .i64 1, .int .i64 2, .int .i64 7, .int .i64 8, .int .i64 9] 3)
    have hB := heap_new2 w (.cells #[.int .i64 64, .int .i64 1, .int .i64 2, .int .i64 7, .int .i64 8, .int .i64 9] 3) (.cells #[.int .i64 18, .int .i64 21] 3)
    have hG := ((Gr.refl w).alloc (.cells #[.int .i64 64, .int .i64 1, .int .i64 2, .int .i64 7, .int .i64 8, .int .i64 9] 3)).alloc (.cells #[.int .i64 18, .int .i64 21] 3)
    have hA2 := ((Gr.refl _).alloc (.cells #[.int .i64 18, .int .i64 21] 3)).blk hA
    go_enter Tryd.func13, Tryd.ntmps13
    go_wp2_with (first
      | (at_builtin; (refine wpList_addX (w0 := w) rfl _ _ _ _ rfl 3 _ 8 intsT intI rfl _ 6 _ rfl (own_ilit (n := 6) (l := [64, 1, 2, 7, 8, 9]) rfl (by omega) rfl hA2 (Nat.le_refl _)) hG _ 2 [.int .i64 18, .int .i64 21] rfl (src_block intsT _ hB rfl (by simp [Value.oneCell'])) (by unfold maxLen; omega) (by omega) ?_); intro va2 ca2 w2 hown2 hg2 hgb2; have hr2 : HasRow w2 3 (.slice va2 8 ca2) 8 (icells [64, 1, 2, 7, 8, 9, 18, 21]) := HasRow.of_own hown2; have ho2 : w2.ownsRow w.heap.size 3 1 (.slice va2 8 ca2) 8 (icells [64, 1, 2, 7, 8, 9, 18, 21]) := hown2; clear hown2)
      | (at_builtin; (refine wpList_addX (w0 := w) rfl _ _ _ _ rfl 3 _ 8 intsT intI rfl _ 8 _ rfl (ownsRow_gr ho2 ((Gr.refl w2).alloc _)) (hg2.alloc _) _ 2 [.int .i64 28, .int .i64 29] rfl (src_block intsT _ (heap_alloc_new _ _) rfl (by simp [Value.oneCell'])) (by unfold maxLen; omega) (by omega) ?_); intro va3 ca3 w3 hown3 hg3 hgb3; have hr3 : HasRow w3 3 (.slice va3 10 ca3) 10 (icells [64, 1, 2, 7, 8, 9, 18, 21, 28, 29]) := HasRow.of_own hown3; have ho3 : w3.ownsRow w.heap.size 3 1 (.slice va3 10 ca3) 10 (icells [64, 1, 2, 7, 8, 9, 18, 21, 28, 29]) := hown3; clear hown3)
      | (go_at_call 15; (with_reducible refine (hcs _ _ _ _ [64, 1, 2, 7, 8, 9, 18, 21, 28, 29] hg3 hr3 (by omega)).mono ?_); rintro e w9 ⟨v9, rfl, hv, hg⟩))
    go_ret
    exact ⟨v9, rfl, hv, hg3.trans hg⟩
  · have hA := heap_alloc_new w (.cells #[.int .i64 65, .int .i64 1, .int .i64 2, .int .i64 7, .int .i64 8, .int .i64 9] 3)
    have hB := heap_new2 w (.cells #[.int .i64 65, .int .i64 1, .int .i64 2, .int .i64 7, .int .i64 8, .int .i64 9] 3) (.cells #[.int .i64 18, .int .i64 21] 3)
    have hG := ((Gr.refl w).alloc (.cells #[.int .i64 65, .int .i64 1, .int .i64 2, .int .i64 7, .int .i64 8, .int .i64 9] 3)).alloc (.cells #[.int .i64 18, .int .i64 21] 3)
    have hA2 := ((Gr.refl _).alloc (.cells #[.int .i64 18, .int .i64 21] 3)).blk hA
    go_enter Tryd.func13, Tryd.ntmps13
    go_wp2_with (first
      | (at_builtin; (refine wpList_addX (w0 := w) rfl _ _ _ _ rfl 3 _ 8 intsT intI rfl _ 6 _ rfl (own_ilit (n := 6) (l := [65, 1, 2, 7, 8, 9]) rfl (by omega) rfl hA2 (Nat.le_refl _)) hG _ 2 [.int .i64 18, .int .i64 21] rfl (src_block intsT _ hB rfl (by simp [Value.oneCell'])) (by unfold maxLen; omega) (by omega) ?_); intro va2 ca2 w2 hown2 hg2 hgb2; have hr2 : HasRow w2 3 (.slice va2 8 ca2) 8 (icells [65, 1, 2, 7, 8, 9, 18, 21]) := HasRow.of_own hown2; have ho2 : w2.ownsRow w.heap.size 3 1 (.slice va2 8 ca2) 8 (icells [65, 1, 2, 7, 8, 9, 18, 21]) := hown2; clear hown2)
      | (at_builtin; (refine wpList_addX (w0 := w) rfl _ _ _ _ rfl 3 _ 8 intsT intI rfl _ 8 _ rfl (ownsRow_gr ho2 ((Gr.refl w2).alloc _)) (hg2.alloc _) _ 2 [.int .i64 28, .int .i64 29] rfl (src_block intsT _ (heap_alloc_new _ _) rfl (by simp [Value.oneCell'])) (by unfold maxLen; omega) (by omega) ?_); intro va3 ca3 w3 hown3 hg3 hgb3; have hr3 : HasRow w3 3 (.slice va3 10 ca3) 10 (icells [65, 1, 2, 7, 8, 9, 18, 21, 28, 29]) := HasRow.of_own hown3; have ho3 : w3.ownsRow w.heap.size 3 1 (.slice va3 10 ca3) 10 (icells [65, 1, 2, 7, 8, 9, 18, 21, 28, 29]) := hown3; clear hown3)
      | (at_builtin; (refine wpList_addX (w0 := w) rfl _ _ _ _ rfl 3 _ 8 intsT intI rfl _ 10 _ rfl (ownsRow_gr ho3 ((Gr.refl w3).alloc _)) (hg3.alloc _) _ 2 [.int .i64 42, .int .i64 44] rfl (src_block intsT _ (heap_alloc_new _ _) rfl (by simp [Value.oneCell'])) (by unfold maxLen; omega) (by omega) ?_); intro va4 ca4 w4 hown4 hg4 hgb4; have hr4 : HasRow w4 3 (.slice va4 12 ca4) 12 (icells [65, 1, 2, 7, 8, 9, 18, 21, 28, 29, 42, 44]) := HasRow.of_own hown4; have ho4 : w4.ownsRow w.heap.size 3 1 (.slice va4 12 ca4) 12 (icells [65, 1, 2, 7, 8, 9, 18, 21, 28, 29, 42, 44]) := hown4; clear hown4)
      | (go_at_call 15; (with_reducible refine (hcs _ _ _ _ [65, 1, 2, 7, 8, 9, 18, 21, 28, 29, 42, 44] hg4 hr4 (by omega)).mono ?_); rintro e w9 ⟨v9, rfl, hv, hg⟩))
    go_ret
    exact ⟨v9, rfl, hv, hg4.trans hg⟩
  · have hA := heap_alloc_new w (.cells #[.int .i64 65, .int .i64 1, .int .i64 2, .int .i64 7, .int .i64 8, .int .i64 9] 3)
    have hB := heap_new2 w (.cells #[.int .i64 65, .int .i64 1, .int .i64 2, .int .i64 7, .int .i64 8, .int .i64 9] 3) (.cells #[.int .i64 18, .int .i64 21] 3)
    have hG := ((Gr.refl w).alloc (.cells #[.int .i64 65, .int .i64 1, .int .i64 2, .int .i64 7, .int .i64 8, .int .i64 9] 3)).alloc (.cells #[.int .i64 18, .int .i64 21] 3)
    have hA2 := ((Gr.refl _).alloc (.cells #[.int .i64 18, .int .i64 21] 3)).blk hA
    go_enter Tryd.func13, Tryd.ntmps13
    go_wp2_with (first
      | (at_builtin; (refine wpList_addX (w0 := w) rfl _ _ _ _ rfl 3 _ 8 intsT intI rfl _ 6 _ rfl (own_ilit (n := 6) (l := [65, 1, 2, 7, 8, 9]) rfl (by omega) rfl hA2 (Nat.le_refl _)) hG _ 2 [.int .i64 18, .int .i64 21] rfl (src_block intsT _ hB rfl (by simp [Value.oneCell'])) (by unfold maxLen; omega) (by omega) ?_); intro va2 ca2 w2 hown2 hg2 hgb2; have hr2 : HasRow w2 3 (.slice va2 8 ca2) 8 (icells [65, 1, 2, 7, 8, 9, 18, 21]) := HasRow.of_own hown2; have ho2 : w2.ownsRow w.heap.size 3 1 (.slice va2 8 ca2) 8 (icells [65, 1, 2, 7, 8, 9, 18, 21]) := hown2; clear hown2)
      | (at_builtin; (refine wpList_addX (w0 := w) rfl _ _ _ _ rfl 3 _ 8 intsT intI rfl _ 8 _ rfl (ownsRow_gr ho2 ((Gr.refl w2).alloc _)) (hg2.alloc _) _ 2 [.int .i64 28, .int .i64 29] rfl (src_block intsT _ (heap_alloc_new _ _) rfl (by simp [Value.oneCell'])) (by unfold maxLen; omega) (by omega) ?_); intro va3 ca3 w3 hown3 hg3 hgb3; have hr3 : HasRow w3 3 (.slice va3 10 ca3) 10 (icells [65, 1, 2, 7, 8, 9, 18, 21, 28, 29]) := HasRow.of_own hown3; have ho3 : w3.ownsRow w.heap.size 3 1 (.slice va3 10 ca3) 10 (icells [65, 1, 2, 7, 8, 9, 18, 21, 28, 29]) := hown3; clear hown3)
      | (at_builtin; (refine wpList_addX (w0 := w) rfl _ _ _ _ rfl 3 _ 8 intsT intI rfl _ 10 _ rfl (ownsRow_gr ho3 ((Gr.refl w3).alloc _)) (hg3.alloc _) _ 2 [.int .i64 42, .int .i64 44] rfl (src_block intsT _ (heap_alloc_new _ _) rfl (by simp [Value.oneCell'])) (by unfold maxLen; omega) (by omega) ?_); intro va4 ca4 w4 hown4 hg4 hgb4; have hr4 : HasRow w4 3 (.slice va4 12 ca4) 12 (icells [65, 1, 2, 7, 8, 9, 18, 21, 28, 29, 42, 44]) := HasRow.of_own hown4; have ho4 : w4.ownsRow w.heap.size 3 1 (.slice va4 12 ca4) 12 (icells [65, 1, 2, 7, 8, 9, 18, 21, 28, 29, 42, 44]) := hown4; clear hown4)
      | (go_at_call 15; (with_reducible refine (hcs _ _ _ _ [65, 1, 2, 7, 8, 9, 18, 21, 28, 29, 42, 44] hg4 hr4 (by omega)).mono ?_); rintro e w9 ⟨v9, rfl, hv, hg⟩))
    go_ret
    exact ⟨v9, rfl, hv, hg4.trans hg⟩
end Go.Proofs.YtjfffkaifcajbaaDoor
