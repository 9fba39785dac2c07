/-
  What the keyboard sends: characters, the number pad, function keys, walked (gen_kyc.py).
-/
import Derived.Deep.RegionHeld3
import Derived.Test.YtnnhaenmoifplaaDoorZKzB
namespace Go.Proofs.YtnnhaenmoifplaaDoor
set_option linter.unusedSimpArgs false
set_option linter.unusedVariables false
open Go.RowKit
set_option linter.unusedVariables false

def bints (l : List UInt8) : List Int := l.map fun b => (b.toNat : Int)
def numK (n : Int) : Int := if n < 6 ∨ 20 < n then 0 else if n ≤ 10 then n + 11 else if n ≤ 14 then n + 12 else if n ≤ 16 then n + 13 else n + 14
set_option maxRecDepth 100000 in
theorem number_any (n : Int) (w : World) : Calls Tryd.prog 27 #[.int .i64 n] w fun e w' => e = .returned (.int .i64 (numK n)) ∧ w = w' := by
  have hc : (n < 6 ∧ numK n = 0) ∨ (6 ≤ n ∧ 20 < n ∧ numK n = 0) ∨ (6 ≤ n ∧ n ≤ 20 ∧ n ≤ 10 ∧ numK n = n + 11) ∨ (6 ≤ n ∧ n ≤ 20 ∧ 10 < n ∧ n ≤ 14 ∧ numK n = n + 12) ∨ (6 ≤ n ∧ n ≤ 20 ∧ 10 < n ∧ 14 < n ∧ n ≤ 16 ∧ numK n = n + 13) ∨ (6 ≤ n ∧ n ≤ 20 ∧ 10 < n ∧ 14 < n ∧ 16 < n ∧ numK n = n + 14) := by
    unfold numK; split <;> (try split) <;> (try split) <;> (try split) <;> omega
  rcases hc with ⟨h1, he⟩ | ⟨h1, h2, he⟩ | ⟨h1, h2, h3, he⟩ | ⟨h1, h2, h3, h4, he⟩ | ⟨h1, h2, h3, h4, h5, he⟩ | ⟨h1, h2, h3, h4, h5, he⟩
  all_goals
    rw [he]
    clear he
    go_enter Tryd.func27, Tryd.ntmps27
    go_wp2_with fail
    go_ret
    exact ⟨rfl, rfl⟩
def charK (c lv : Int) (ct : Bool) : List Int := if c < 32 ∨ (127 ≤ c ∧ c < 160) ∨ (160 ≤ c ∧ lv < 2) then [] else if ct = true ∧ c = 63 then [127] else if ct = true ∧ c = 32 then [0] else if ct = true ∧ 64 ≤ c ∧ c < 127 then [c % 32] else [c]
theorem and31 (c : Int) (h0 : 0 ≤ c) (h1 : c < 256) : bits .and .u8 c 31 = c % 32 := by
  have H : ∀ k : Fin 256, bits BinOp.and IntKind.u8 (k.val : Int) 31 = (k.val : Int) % 32 := by decide +kernel
  have := H ⟨c.toNat, by omega⟩
  simpa [Int.toNat_of_nonneg h0] using this
set_option maxRecDepth 100000 in
set_option maxHeartbeats 2000000 in
theorem char_any {w : World} (k c : Int) (sh ct : Bool) (m : BitVec 32) (lv : Int) (ei : Bool) (p : Nat) (hc : 0 ≤ c ∧ c < 256) : Calls Tryd.prog 13 #[.agg (cBoard k c sh ct m lv ei p)] w (EncTo w (charK c lv ct)) := by
  unfold cBoard
  have hgB := (Gr.refl w).alloc (.cells #[.int .i64 k, .int .u8 c, .bool sh, .bool ct, .int .u32 (m.toNat : Int), .int .i64 lv, .bool ei, .pointer (some ⟨p, 0, none⟩)] 53)
  obtain ⟨hc0, hc1⟩ := hc
  have ha := and31 c hc0 hc1
  have hcs : (c < 32) ∨ (32 ≤ c ∧ 127 ≤ c ∧ c < 160) ∨ (32 ≤ c ∧ 127 ≤ c ∧ 160 ≤ c ∧ lv < 2) ∨ (32 ≤ c ∧ c < 127 ∧ ct = false) ∨ (32 ≤ c ∧ 127 ≤ c ∧ 160 ≤ c ∧ 2 ≤ lv ∧ ct = false) ∨ (c = 63 ∧ ct = true) ∨ (c = 32 ∧ ct = true) ∨ (32 ≤ c ∧ 64 ≤ c ∧ c < 127 ∧ ct = true) ∨ (32 ≤ c ∧ c < 64 ∧ c ≠ 63 ∧ c ≠ 32 ∧ ct = true) ∨ (32 ≤ c ∧ 127 ≤ c ∧ 160 ≤ c ∧ 2 ≤ lv ∧ ct = true) := by
    cases ct <;> simp only [Bool.false_eq_true, and_false, and_true, reduceCtorEq, or_false, false_or] <;> omega
  rcases hcs with q0 | ⟨q0, q1, q2⟩ | ⟨q0, q1, q2, q3⟩ | ⟨q0, q1, rfl⟩ | ⟨q0, q1, q2, q3, rfl⟩ | ⟨rfl, rfl⟩ | ⟨rfl, rfl⟩ | ⟨q0, q1, q2, rfl⟩ | ⟨q0, q1, q2, q3, rfl⟩ | ⟨q0, q1, q2, q3, rfl⟩
  · have he : charK c lv ct = [] := by
      unfold charK
      rw [if_pos (by omega)]
    rw [he]
    clear he
    clear ha
    go_enter Tryd.func13, Tryd.ntmps13
    go_wp2_with fail
    go_ret
    exact ⟨none, 0, rfl, ⟨HasRow.nil _ _, fresh_nil⟩, hgB⟩
  · have he : charK c lv ct = [] := by
      unfold charK
      rw [if_pos (by omega)]
    rw [he]
    clear he
    clear ha
    go_enter Tryd.func13, Tryd.ntmps13
    go_wp2_with fail
    go_ret
    exact ⟨none, 0, rfl, ⟨HasRow.nil _ _, fresh_nil⟩, hgB⟩
  · have he : charK c lv ct = [] := by
      unfold charK
      rw [if_pos (by omega)]
    rw [he]
    clear he
    clear ha
    go_enter Tryd.func13, Tryd.ntmps13
    go_wp2_with fail
    go_ret
    exact ⟨none, 0, rfl, ⟨HasRow.nil _ _, fresh_nil⟩, hgB⟩
  · have he : charK c lv false = [c] := by
      unfold charK
      rw [if_neg (by omega)]; simp
    rw [he]
    clear he
    clear ha
    go_enter Tryd.func13, Tryd.ntmps13
    go_wp2_with fail
    go_ret
    exact ⟨_, _, rfl, ⟨hasRow_u8 (n := 1) (l := [c]) rfl rfl (heap_new2 _ _ _), fresh_at (by simp)⟩, hgB.alloc _⟩
  · have he : charK c lv false = [c] := by
      unfold charK
      rw [if_neg (by omega)]; simp
    rw [he]
    clear he
    clear ha
    go_enter Tryd.func13, Tryd.ntmps13
    go_wp2_with fail
    go_ret
    exact ⟨_, _, rfl, ⟨hasRow_u8 (n := 1) (l := [c]) rfl rfl (heap_new2 _ _ _), fresh_at (by simp)⟩, hgB.alloc _⟩
  · have he : charK 63 lv true = [127] := by
      unfold charK
      rw [if_neg (by omega)]; simp
    rw [he]
    clear he
    clear ha
    go_enter Tryd.func13, Tryd.ntmps13
    go_wp2_with fail
    go_ret
    exact ⟨_, _, rfl, ⟨hasRow_u8 (n := 1) (l := [127]) rfl rfl (heap_new2 _ _ _), fresh_at (by simp)⟩, hgB.alloc _⟩
  · have he : charK 32 lv true = [0] := by
      unfold charK
      rw [if_neg (by omega)]; simp
    rw [he]
    clear he
    clear ha
    go_enter Tryd.func13, Tryd.ntmps13
    go_wp2_with fail
    go_ret
    exact ⟨_, _, rfl, ⟨hasRow_u8 (n := 1) (l := [0]) rfl rfl (heap_new2 _ _ _), fresh_at (by simp)⟩, hgB.alloc _⟩
  · have he : charK c lv true = [c % 32] := by
      unfold charK
      rw [if_neg (by omega), if_neg (by simp; omega), if_neg (by simp; omega), if_pos (by simp; omega)]
    rw [he]
    clear he
    have z1 : (c == 63) = false := by simp; omega
    have z2 : (c == 32) = false := by simp; omega
    go_enter Tryd.func13, Tryd.ntmps13
    go_wp2_with fail
    go_ret
    exact ⟨_, _, rfl, ⟨hasRow_u8 (n := 1) (l := [c % 32]) rfl rfl (heap_new2 _ _ _), fresh_at (by simp)⟩, hgB.alloc _⟩
  · have he : charK c lv true = [c] := by
      unfold charK
      rw [if_neg (by omega), if_neg (by simp; omega), if_neg (by simp; omega), if_neg (by simp; omega)]
    rw [he]
    clear he
    clear ha
    have z1 : (c == 63) = false := by simp; omega
    have z2 : (c == 32) = false := by simp; omega
    go_enter Tryd.func13, Tryd.ntmps13
    go_wp2_with fail
    go_ret
    exact ⟨_, _, rfl, ⟨hasRow_u8 (n := 1) (l := [c]) rfl rfl (heap_new2 _ _ _), fresh_at (by simp)⟩, hgB.alloc _⟩
  · have he : charK c lv true = [c] := by
      unfold charK
      rw [if_neg (by omega), if_neg (by simp; omega), if_neg (by simp; omega), if_neg (by simp; omega)]
    rw [he]
    clear he
    clear ha
    have z1 : (c == 63) = false := by simp; omega
    have z2 : (c == 32) = false := by simp; omega
    go_enter Tryd.func13, Tryd.ntmps13
    go_wp2_with fail
    go_ret
    exact ⟨_, _, rfl, ⟨hasRow_u8 (n := 1) (l := [c]) rfl rfl (heap_new2 _ _ _), fresh_at (by simp)⟩, hgB.alloc _⟩
def padA (c : Int) : Int := if 48 ≤ c ∧ c ≤ 57 then c + 64 else if c = 45 then 109 else if c = 44 then 108 else if c = 46 then 110 else if c = 13 then 77 else 0
def padK (c : Int) (nkm lnm eight : Bool) : List Int := if padA c = 0 then [] else if nkm = true then singR eight (padA c) else if c = 13 then enterK lnm else [c]
theorem padA_cases {c : Int} (h0 : 0 ≤ c) (h1 : c < 256) : ((padA c = 0 ∧ Lib.indexByte [48, 49, 50, 51, 52, 53, 54, 55, 56, 57, 45, 44, 46, 13] c.toNat.toUInt8 = -1)) ∨ c = 48 ∨ c = 49 ∨ c = 50 ∨ c = 51 ∨ c = 52 ∨ c = 53 ∨ c = 54 ∨ c = 55 ∨ c = 56 ∨ c = 57 ∨ c = 45 ∨ c = 44 ∨ c = 46 ∨ c = 13 := by
  have H : ∀ k : Fin 256, ((padA (k.val : Int) = 0 ∧ Lib.indexByte [48, 49, 50, 51, 52, 53, 54, 55, 56, 57, 45, 44, 46, 13] (k.val : Int).toNat.toUInt8 = -1)) ∨ (k.val : Int) = 48 ∨ (k.val : Int) = 49 ∨ (k.val : Int) = 50 ∨ (k.val : Int) = 51 ∨ (k.val : Int) = 52 ∨ (k.val : Int) = 53 ∨ (k.val : Int) = 54 ∨ (k.val : Int) = 55 ∨ (k.val : Int) = 56 ∨ (k.val : Int) = 57 ∨ (k.val : Int) = 45 ∨ (k.val : Int) = 44 ∨ (k.val : Int) = 46 ∨ (k.val : Int) = 13 := by decide +kernel
  have := H ⟨c.toNat, by omega⟩
  simpa [Int.toNat_of_nonneg h0] using this
set_option maxRecDepth 100000 in
set_option maxHeartbeats 2000000 in
theorem pad_any {w : World} (k c : Int) (sh ct : Bool) (m : BitVec 32) (lv : Int) (ei : Bool) (p : Nat) (hT : tabT w) (hc : 0 ≤ c ∧ c < 256) : Calls Tryd.prog 18 #[.agg (cBoard k c sh ct m lv ei p)] w (EncTo w (padK c (hasB m 12) (hasB m 3) ei)) := by
  unfold cBoard
  have hgB := (Gr.refl w).alloc (.cells #[.int .i64 k, .int .u8 c, .bool sh, .bool ct, .int .u32 (m.toNat : Int), .int .i64 lv, .bool ei, .pointer (some ⟨p, 0, none⟩)] 53)
  obtain ⟨hc0, hc1⟩ := hc
  have h12 := (hasFor m).h12
  have hcv := conv_lit w
  rcases padA_cases hc0 hc1 with ⟨hz, hi⟩ | rfl | rfl | rfl | rfl | rfl | rfl | rfl | rfl | rfl | rfl | rfl | rfl | rfl | rfl
  · have e : padK c (hasB m 12) (hasB m 3) ei = [] := if_pos hz
    rw [e]
    have hix : ∀ W, Calls Tryd.prog 25 #[.string ⟨#[48, 49, 50, 51, 52, 53, 54, 55, 56, 57, 45, 44, 46, 13]⟩, .int .u8 c] W fun e w' => e = .returned (.int .i64 (-1)) ∧ W = w' := fun W => (Tryd.strings_IndexByte _ _ W).mono fun e w' ⟨h1, h2⟩ => ⟨by rw [h1, ← hi], h2.symm⟩
    clear e hz hi
    go_enter Tryd.func18, Tryd.ntmps18
    go_wp2_with (go_at_call 25; (with_reducible refine (hix _).mono ?_); rintro e w1 ⟨rfl, rfl⟩)
    go_ret
    exact ⟨none, 0, rfl, ⟨HasRow.nil _ _, fresh_nil⟩, hgB⟩
  · have hix : ∀ W, Calls Tryd.prog 25 #[.string ⟨#[48, 49, 50, 51, 52, 53, 54, 55, 56, 57, 45, 44, 46, 13]⟩, .int .u8 48] W fun e w' => e = .returned (.int .i64 0) ∧ W = w' := fun W => (Tryd.strings_IndexByte _ _ W).mono fun e w' ⟨h1, h2⟩ => ⟨h1, h2.symm⟩
    have hs : ∀ W, Gr w W → Calls Tryd.prog 26 #[.bool ei, .int .u8 (((⟨#[112, 113, 114, 115, 116, 117, 118, 119, 120, 121, 109, 108, 110, 77]⟩ : ByteArray)[0]'(by decide)).toNat : Int)] W (AnsOwn W (singR ei 112)) := fun W hg => single_s (w := W) ei 112 (hT.gr hg)
    have hgD := hgB.drew
    cases hb : hasB m 12
    · rw [hb] at h12
      show Calls _ _ _ _ (EncTo w [48])
      go_enter Tryd.func18, Tryd.ntmps18
      go_wp2_with (first
        | (go_at_call 25; (with_reducible refine (hix _).mono ?_); rintro e w1 ⟨rfl, rfl⟩)
        | (go_at_call 9; (with_reducible refine (h12 _).mono ?_); rintro e w1 ⟨rfl, rfl⟩))
      go_ret
      exact ⟨_, _, rfl, ⟨hasRow_u8 (n := 1) (l := [48]) rfl rfl (heap_new2 _ _ _), fresh_at (by simp)⟩, hgB.alloc _⟩
    · rw [hb] at h12
      show Calls _ _ _ _ (EncTo w (singR ei 112))
      go_enter Tryd.func18, Tryd.ntmps18
      go_wp2_with (first
        | (go_at_call 25; (with_reducible refine (hix _).mono ?_); rintro e w1 ⟨rfl, rfl⟩)
        | (go_at_call 9; (with_reducible refine (h12 _).mono ?_); rintro e w1 ⟨rfl, rfl⟩))
      go_region_held3 (fun w9 => w9.cell? ⟨w.heap.size, 6, none⟩ = some (.bool ei)) (first | go_keep | exact Gr.cellAt (by assumption) (by simp)) ((go_at_call 26; (with_reducible refine (hs _ hgD).mono ?_); rintro e w2 ⟨va, vc, rfl, hO, hg2⟩))
      all_goals go_wp2_with fail
      go_ret
      exact .of hO hgD.size (hgD.trans hg2)
  · have hix : ∀ W, Calls Tryd.prog 25 #[.string ⟨#[48, 49, 50, 51, 52, 53, 54, 55, 56, 57, 45, 44, 46, 13]⟩, .int .u8 49] W fun e w' => e = .returned (.int .i64 1) ∧ W = w' := fun W => (Tryd.strings_IndexByte _ _ W).mono fun e w' ⟨h1, h2⟩ => ⟨h1, h2.symm⟩
    have hs : ∀ W, Gr w W → Calls Tryd.prog 26 #[.bool ei, .int .u8 (((⟨#[112, 113, 114, 115, 116, 117, 118, 119, 120, 121, 109, 108, 110, 77]⟩ : ByteArray)[1]'(by decide)).toNat : Int)] W (AnsOwn W (singR ei 113)) := fun W hg => single_s (w := W) ei 113 (hT.gr hg)
    have hgD := hgB.drew
    cases hb : hasB m 12
    · rw [hb] at h12
      show Calls _ _ _ _ (EncTo w [49])
      go_enter Tryd.func18, Tryd.ntmps18
      go_wp2_with (first
        | (go_at_call 25; (with_reducible refine (hix _).mono ?_); rintro e w1 ⟨rfl, rfl⟩)
        | (go_at_call 9; (with_reducible refine (h12 _).mono ?_); rintro e w1 ⟨rfl, rfl⟩))
      go_ret
      exact ⟨_, _, rfl, ⟨hasRow_u8 (n := 1) (l := [49]) rfl rfl (heap_new2 _ _ _), fresh_at (by simp)⟩, hgB.alloc _⟩
    · rw [hb] at h12
      show Calls _ _ _ _ (EncTo w (singR ei 113))
      go_enter Tryd.func18, Tryd.ntmps18
      go_wp2_with (first
        | (go_at_call 25; (with_reducible refine (hix _).mono ?_); rintro e w1 ⟨rfl, rfl⟩)
        | (go_at_call 9; (with_reducible refine (h12 _).mono ?_); rintro e w1 ⟨rfl, rfl⟩))
      go_region_held3 (fun w9 => w9.cell? ⟨w.heap.size, 6, none⟩ = some (.bool ei)) (first | go_keep | exact Gr.cellAt (by assumption) (by simp)) ((go_at_call 26; (with_reducible refine (hs _ hgD).mono ?_); rintro e w2 ⟨va, vc, rfl, hO, hg2⟩))
      all_goals go_wp2_with fail
      go_ret
      exact .of hO hgD.size (hgD.trans hg2)
  · have hix : ∀ W, Calls Tryd.prog 25 #[.string ⟨#[48, 49, 50, 51, 52, 53, 54, 55, 56, 57, 45, 44, 46, 13]⟩, .int .u8 50] W fun e w' => e = .returned (.int .i64 2) ∧ W = w' := fun W => (Tryd.strings_IndexByte _ _ W).mono fun e w' ⟨h1, h2⟩ => ⟨h1, h2.symm⟩
    have hs : ∀ W, Gr w W → Calls Tryd.prog 26 #[.bool ei, .int .u8 (((⟨#[112, 113, 114, 115, 116, 117, 118, 119, 120, 121, 109, 108, 110, 77]⟩ : ByteArray)[2]'(by decide)).toNat : Int)] W (AnsOwn W (singR ei 114)) := fun W hg => single_s (w := W) ei 114 (hT.gr hg)
    have hgD := hgB.drew
    cases hb : hasB m 12
    · rw [hb] at h12
      show Calls _ _ _ _ (EncTo w [50])
      go_enter Tryd.func18, Tryd.ntmps18
      go_wp2_with (first
        | (go_at_call 25; (with_reducible refine (hix _).mono ?_); rintro e w1 ⟨rfl, rfl⟩)
        | (go_at_call 9; (with_reducible refine (h12 _).mono ?_); rintro e w1 ⟨rfl, rfl⟩))
      go_ret
      exact ⟨_, _, rfl, ⟨hasRow_u8 (n := 1) (l := [50]) rfl rfl (heap_new2 _ _ _), fresh_at (by simp)⟩, hgB.alloc _⟩
    · rw [hb] at h12
      show Calls _ _ _ _ (EncTo w (singR ei 114))
      go_enter Tryd.func18, Tryd.ntmps18
      go_wp2_with (first
        | (go_at_call 25; (with_reducible refine (hix _).mono ?_); rintro e w1 ⟨rfl, rfl⟩)
        | (go_at_call 9; (with_reducible refine (h12 _).mono ?_); rintro e w1 ⟨rfl, rfl⟩))
      go_region_held3 (fun w9 => w9.cell? ⟨w.heap.size, 6, none⟩ = some (.bool ei)) (first | go_keep | exact Gr.cellAt (by assumption) (by simp)) ((go_at_call 26; (with_reducible refine (hs _ hgD).mono ?_); rintro e w2 ⟨va, vc, rfl, hO, hg2⟩))
      all_goals go_wp2_with fail
      go_ret
      exact .of hO hgD.size (hgD.trans hg2)
  · have hix : ∀ W, Calls Tryd.prog 25 #[.string ⟨#[48, 49, 50, 51, 52, 53, 54, 55, 56, 57, 45, 44, 46, 13]⟩, .int .u8 51] W fun e w' => e = .returned (.int .i64 3) ∧ W = w' := fun W => (Tryd.strings_IndexByte _ _ W).mono fun e w' ⟨h1, h2⟩ => ⟨h1, h2.symm⟩
    have hs : ∀ W, Gr w W → Calls Tryd.prog 26 #[.bool ei, .int .u8 (((⟨#[112, 113, 114, 115, 116, 117, 118, 119, 120, 121, 109, 108, 110, 77]⟩ : ByteArray)[3]'(by decide)).toNat : Int)] W (AnsOwn W (singR ei 115)) := fun W hg => single_s (w := W) ei 115 (hT.gr hg)
    have hgD := hgB.drew
    cases hb : hasB m 12
    · rw [hb] at h12
      show Calls _ _ _ _ (EncTo w [51])
      go_enter Tryd.func18, Tryd.ntmps18
      go_wp2_with (first
        | (go_at_call 25; (with_reducible refine (hix _).mono ?_); rintro e w1 ⟨rfl, rfl⟩)
        | (go_at_call 9; (with_reducible refine (h12 _).mono ?_); rintro e w1 ⟨rfl, rfl⟩))
      go_ret
      exact ⟨_, _, rfl, ⟨hasRow_u8 (n := 1) (l := [51]) rfl rfl (heap_new2 _ _ _), fresh_at (by simp)⟩, hgB.alloc _⟩
    · rw [hb] at h12
      show Calls _ _ _ _ (EncTo w (singR ei 115))
      go_enter Tryd.func18, Tryd.ntmps18
      go_wp2_with (first
        | (go_at_call 25; (with_reducible refine (hix _).mono ?_); rintro e w1 ⟨rfl, rfl⟩)
        | (go_at_call 9; (with_reducible refine (h12 _).mono ?_); rintro e w1 ⟨rfl, rfl⟩))
      go_region_held3 (fun w9 => w9.cell? ⟨w.heap.size, 6, none⟩ = some (.bool ei)) (first | go_keep | exact Gr.cellAt (by assumption) (by simp)) ((go_at_call 26; (with_reducible refine (hs _ hgD).mono ?_); rintro e w2 ⟨va, vc, rfl, hO, hg2⟩))
      all_goals go_wp2_with fail
      go_ret
      exact .of hO hgD.size (hgD.trans hg2)
  · have hix : ∀ W, Calls Tryd.prog 25 #[.string ⟨#[48, 49, 50, 51, 52, 53, 54, 55, 56, 57, 45, 44, 46, 13]⟩, .int .u8 52] W fun e w' => e = .returned (.int .i64 4) ∧ W = w' := fun W => (Tryd.strings_IndexByte _ _ W).mono fun e w' ⟨h1, h2⟩ => ⟨h1, h2.symm⟩
    have hs : ∀ W, Gr w W → Calls Tryd.prog 26 #[.bool ei, .int .u8 (((⟨#[112, 113, 114, 115, 116, 117, 118, 119, 120, 121, 109, 108, 110, 77]⟩ : ByteArray)[4]'(by decide)).toNat : Int)] W (AnsOwn W (singR ei 116)) := fun W hg => single_s (w := W) ei 116 (hT.gr hg)
    have hgD := hgB.drew
    cases hb : hasB m 12
    · rw [hb] at h12
      show Calls _ _ _ _ (EncTo w [52])
      go_enter Tryd.func18, Tryd.ntmps18
      go_wp2_with (first
        | (go_at_call 25; (with_reducible refine (hix _).mono ?_); rintro e w1 ⟨rfl, rfl⟩)
        | (go_at_call 9; (with_reducible refine (h12 _).mono ?_); rintro e w1 ⟨rfl, rfl⟩))
      go_ret
      exact ⟨_, _, rfl, ⟨hasRow_u8 (n := 1) (l := [52]) rfl rfl (heap_new2 _ _ _), fresh_at (by simp)⟩, hgB.alloc _⟩
    · rw [hb] at h12
      show Calls _ _ _ _ (EncTo w (singR ei 116))
      go_enter Tryd.func18, Tryd.ntmps18
      go_wp2_with (first
        | (go_at_call 25; (with_reducible refine (hix _).mono ?_); rintro e w1 ⟨rfl, rfl⟩)
        | (go_at_call 9; (with_reducible refine (h12 _).mono ?_); rintro e w1 ⟨rfl, rfl⟩))
      go_region_held3 (fun w9 => w9.cell? ⟨w.heap.size, 6, none⟩ = some (.bool ei)) (first | go_keep | exact Gr.cellAt (by assumption) (by simp)) ((go_at_call 26; (with_reducible refine (hs _ hgD).mono ?_); rintro e w2 ⟨va, vc, rfl, hO, hg2⟩))
      all_goals go_wp2_with fail
      go_ret
      exact .of hO hgD.size (hgD.trans hg2)
  · have hix : ∀ W, Calls Tryd.prog 25 #[.string ⟨#[48, 49, 50, 51, 52, 53, 54, 55, 56, 57, 45, 44, 46, 13]⟩, .int .u8 53] W fun e w' => e = .returned (.int .i64 5) ∧ W = w' := fun W => (Tryd.strings_IndexByte _ _ W).mono fun e w' ⟨h1, h2⟩ => ⟨h1, h2.symm⟩
    have hs : ∀ W, Gr w W → Calls Tryd.prog 26 #[.bool ei, .int .u8 (((⟨#[112, 113, 114, 115, 116, 117, 118, 119, 120, 121, 109, 108, 110, 77]⟩ : ByteArray)[5]'(by decide)).toNat : Int)] W (AnsOwn W (singR ei 117)) := fun W hg => single_s (w := W) ei 117 (hT.gr hg)
    have hgD := hgB.drew
    cases hb : hasB m 12
    · rw [hb] at h12
      show Calls _ _ _ _ (EncTo w [53])
      go_enter Tryd.func18, Tryd.ntmps18
      go_wp2_with (first
        | (go_at_call 25; (with_reducible refine (hix _).mono ?_); rintro e w1 ⟨rfl, rfl⟩)
        | (go_at_call 9; (with_reducible refine (h12 _).mono ?_); rintro e w1 ⟨rfl, rfl⟩))
      go_ret
      exact ⟨_, _, rfl, ⟨hasRow_u8 (n := 1) (l := [53]) rfl rfl (heap_new2 _ _ _), fresh_at (by simp)⟩, hgB.alloc _⟩
    · rw [hb] at h12
      show Calls _ _ _ _ (EncTo w (singR ei 117))
      go_enter Tryd.func18, Tryd.ntmps18
      go_wp2_with (first
        | (go_at_call 25; (with_reducible refine (hix _).mono ?_); rintro e w1 ⟨rfl, rfl⟩)
        | (go_at_call 9; (with_reducible refine (h12 _).mono ?_); rintro e w1 ⟨rfl, rfl⟩))
      go_region_held3 (fun w9 => w9.cell? ⟨w.heap.size, 6, none⟩ = some (.bool ei)) (first | go_keep | exact Gr.cellAt (by assumption) (by simp)) ((go_at_call 26; (with_reducible refine (hs _ hgD).mono ?_); rintro e w2 ⟨va, vc, rfl, hO, hg2⟩))
      all_goals go_wp2_with fail
      go_ret
      exact .of hO hgD.size (hgD.trans hg2)
  · have hix : ∀ W, Calls Tryd.prog 25 #[.string ⟨#[48, 49, 50, 51, 52, 53, 54, 55, 56, 57, 45, 44, 46, 13]⟩, .int .u8 54] W fun e w' => e = .returned (.int .i64 6) ∧ W = w' := fun W => (Tryd.strings_IndexByte _ _ W).mono fun e w' ⟨h1, h2⟩ => ⟨h1, h2.symm⟩
    have hs : ∀ W, Gr w W → Calls Tryd.prog 26 #[.bool ei, .int .u8 (((⟨#[112, 113, 114, 115, 116, 117, 118, 119, 120, 121, 109, 108, 110, 77]⟩ : ByteArray)[6]'(by decide)).toNat : Int)] W (AnsOwn W (singR ei 118)) := fun W hg => single_s (w := W) ei 118 (hT.gr hg)
    have hgD := hgB.drew
    cases hb : hasB m 12
    · rw [hb] at h12
      show Calls _ _ _ _ (EncTo w [54])
      go_enter Tryd.func18, Tryd.ntmps18
      go_wp2_with (first
        | (go_at_call 25; (with_reducible refine (hix _).mono ?_); rintro e w1 ⟨rfl, rfl⟩)
        | (go_at_call 9; (with_reducible refine (h12 _).mono ?_); rintro e w1 ⟨rfl, rfl⟩))
      go_ret
      exact ⟨_, _, rfl, ⟨hasRow_u8 (n := 1) (l := [54]) rfl rfl (heap_new2 _ _ _), fresh_at (by simp)⟩, hgB.alloc _⟩
    · rw [hb] at h12
      show Calls _ _ _ _ (EncTo w (singR ei 118))
      go_enter Tryd.func18, Tryd.ntmps18
      go_wp2_with (first
        | (go_at_call 25; (with_reducible refine (hix _).mono ?_); rintro e w1 ⟨rfl, rfl⟩)
        | (go_at_call 9; (with_reducible refine (h12 _).mono ?_); rintro e w1 ⟨rfl, rfl⟩))
      go_region_held3 (fun w9 => w9.cell? ⟨w.heap.size, 6, none⟩ = some (.bool ei)) (first | go_keep | exact Gr.cellAt (by assumption) (by simp)) ((go_at_call 26; (with_reducible refine (hs _ hgD).mono ?_); rintro e w2 ⟨va, vc, rfl, hO, hg2⟩))
      all_goals go_wp2_with fail
      go_ret
      exact .of hO hgD.size (hgD.trans hg2)
  · have hix : ∀ W, Calls Tryd.prog 25 #[.string ⟨#[48, 49, 50, 51, 52, 53, 54, 55, 56, 57, 45, 44, 46, 13]⟩, .int .u8 55] W fun e w' => e = .returned (.int .i64 7) ∧ W = w' := fun W => (Tryd.strings_IndexByte _ _ W).mono fun e w' ⟨h1, h2⟩ => ⟨h1, h2.symm⟩
    have hs : ∀ W, Gr w W → Calls Tryd.prog 26 #[.bool ei, .int .u8 (((⟨#[112, 113, 114, 115, 116, 117, 118, 119, 120, 121, 109, 108, 110, 77]⟩ : ByteArray)[7]'(by decide)).toNat : Int)] W (AnsOwn W (singR ei 119)) := fun W hg => single_s (w := W) ei 119 (hT.gr hg)
    have hgD := hgB.drew
    cases hb : hasB m 12
    · rw [hb] at h12
      show Calls _ _ _ _ (EncTo w [55])
      go_enter Tryd.func18, Tryd.ntmps18
      go_wp2_with (first
        | (go_at_call 25; (with_reducible refine (hix _).mono ?_); rintro e w1 ⟨rfl, rfl⟩)
        | (go_at_call 9; (with_reducible refine (h12 _).mono ?_); rintro e w1 ⟨rfl, rfl⟩))
      go_ret
      exact ⟨_, _, rfl, ⟨hasRow_u8 (n := 1) (l := [55]) rfl rfl (heap_new2 _ _ _), fresh_at (by simp)⟩, hgB.alloc _⟩
    · rw [hb] at h12
      show Calls _ _ _ _ (EncTo w (singR ei 119))
      go_enter Tryd.func18, Tryd.ntmps18
      go_wp2_with (first
        | (go_at_call 25; (with_reducible refine (hix _).mono ?_); rintro e w1 ⟨rfl, rfl⟩)
        | (go_at_call 9; (with_reducible refine (h12 _).mono ?_); rintro e w1 ⟨rfl, rfl⟩))
      go_region_held3 (fun w9 => w9.cell? ⟨w.heap.size, 6, none⟩ = some (.bool ei)) (first | go_keep | exact Gr.cellAt (by assumption) (by simp)) ((go_at_call 26; (with_reducible refine (hs _ hgD).mono ?_); rintro e w2 ⟨va, vc, rfl, hO, hg2⟩))
      all_goals go_wp2_with fail
      go_ret
      exact .of hO hgD.size (hgD.trans hg2)
  · have hix : ∀ W, Calls Tryd.prog 25 #[.string ⟨#[48, 49, 50, 51, 52, 53, 54, 55, 56, 57, 45, 44, 46, 13]⟩, .int .u8 56] W fun e w' => e = .returned (.int .i64 8) ∧ W = w' := fun W => (Tryd.strings_IndexByte _ _ W).mono fun e w' ⟨h1, h2⟩ => ⟨h1, h2.symm⟩
    have hs : ∀ W, Gr w W → Calls Tryd.prog 26 #[.bool ei, .int .u8 (((⟨#[112, 113, 114, 115, 116, 117, 118, 119, 120, 121, 109, 108, 110, 77]⟩ : ByteArray)[8]'(by decide)).toNat : Int)] W (AnsOwn W (singR ei 120)) := fun W hg => single_s (w := W) ei 120 (hT.gr hg)
    have hgD := hgB.drew
    cases hb : hasB m 12
    · rw [hb] at h12
      show Calls _ _ _ _ (EncTo w [56])
      go_enter Tryd.func18, Tryd.ntmps18
      go_wp2_with (first
        | (go_at_call 25; (with_reducible refine (hix _).mono ?_); rintro e w1 ⟨rfl, rfl⟩)
        | (go_at_call 9; (with_reducible refine (h12 _).mono ?_); rintro e w1 ⟨rfl, rfl⟩))
      go_ret
      exact ⟨_, _, rfl, ⟨hasRow_u8 (n := 1) (l := [56]) rfl rfl (heap_new2 _ _ _), fresh_at (by simp)⟩, hgB.alloc _⟩
    · rw [hb] at h12
      show Calls _ _ _ _ (EncTo w (singR ei 120))
      go_enter Tryd.func18, Tryd.ntmps18
      go_wp2_with (first
        | (go_at_call 25; (with_reducible refine (hix _).mono ?_); rintro e w1 ⟨rfl, rfl⟩)
        | (go_at_call 9; (with_reducible refine (h12 _).mono ?_); rintro e w1 ⟨rfl, rfl⟩))
      go_region_held3 (fun w9 => w9.cell? ⟨w.heap.size, 6, none⟩ = some (.bool ei)) (first | go_keep | exact Gr.cellAt (by assumption) (by simp)) ((go_at_call 26; (with_reducible refine (hs _ hgD).mono ?_); rintro e w2 ⟨va, vc, rfl, hO, hg2⟩))
      all_goals go_wp2_with fail
      go_ret
      exact .of hO hgD.size (hgD.trans hg2)
  · have hix : ∀ W, Calls Tryd.prog 25 #[.string ⟨#[48, 49, 50, 51, 52, 53, 54, 55, 56, 57, 45, 44, 46, 13]⟩, .int .u8 57] W fun e w' => e = .returned (.int .i64 9) ∧ W = w' := fun W => (Tryd.strings_IndexByte _ _ W).mono fun e w' ⟨h1, h2⟩ => ⟨h1, h2.symm⟩
    have hs : ∀ W, Gr w W → Calls Tryd.prog 26 #[.bool ei, .int .u8 (((⟨#[112, 113, 114, 115, 116, 117, 118, 119, 120, 121, 109, 108, 110, 77]⟩ : ByteArray)[9]'(by decide)).toNat : Int)] W (AnsOwn W (singR ei 121)) := fun W hg => single_s (w := W) ei 121 (hT.gr hg)
    have hgD := hgB.drew
    cases hb : hasB m 12
    · rw [hb] at h12
      show Calls _ _ _ _ (EncTo w [57])
      go_enter Tryd.func18, Tryd.ntmps18
      go_wp2_with (first
        | (go_at_call 25; (with_reducible refine (hix _).mono ?_); rintro e w1 ⟨rfl, rfl⟩)
        | (go_at_call 9; (with_reducible refine (h12 _).mono ?_); rintro e w1 ⟨rfl, rfl⟩))
      go_ret
      exact ⟨_, _, rfl, ⟨hasRow_u8 (n := 1) (l := [57]) rfl rfl (heap_new2 _ _ _), fresh_at (by simp)⟩, hgB.alloc _⟩
    · rw [hb] at h12
      show Calls _ _ _ _ (EncTo w (singR ei 121))
      go_enter Tryd.func18, Tryd.ntmps18
      go_wp2_with (first
        | (go_at_call 25; (with_reducible refine (hix _).mono ?_); rintro e w1 ⟨rfl, rfl⟩)
        | (go_at_call 9; (with_reducible refine (h12 _).mono ?_); rintro e w1 ⟨rfl, rfl⟩))
      go_region_held3 (fun w9 => w9.cell? ⟨w.heap.size, 6, none⟩ = some (.bool ei)) (first | go_keep | exact Gr.cellAt (by assumption) (by simp)) ((go_at_call 26; (with_reducible refine (hs _ hgD).mono ?_); rintro e w2 ⟨va, vc, rfl, hO, hg2⟩))
      all_goals go_wp2_with fail
      go_ret
      exact .of hO hgD.size (hgD.trans hg2)
  · have hix : ∀ W, Calls Tryd.prog 25 #[.string ⟨#[48, 49, 50, 51, 52, 53, 54, 55, 56, 57, 45, 44, 46, 13]⟩, .int .u8 45] W fun e w' => e = .returned (.int .i64 10) ∧ W = w' := fun W => (Tryd.strings_IndexByte _ _ W).mono fun e w' ⟨h1, h2⟩ => ⟨h1, h2.symm⟩
    have hs : ∀ W, Gr w W → Calls Tryd.prog 26 #[.bool ei, .int .u8 (((⟨#[112, 113, 114, 115, 116, 117, 118, 119, 120, 121, 109, 108, 110, 77]⟩ : ByteArray)[10]'(by decide)).toNat : Int)] W (AnsOwn W (singR ei 109)) := fun W hg => single_s (w := W) ei 109 (hT.gr hg)
    have hgD := hgB.drew
    cases hb : hasB m 12
    · rw [hb] at h12
      show Calls _ _ _ _ (EncTo w [45])
      go_enter Tryd.func18, Tryd.ntmps18
      go_wp2_with (first
        | (go_at_call 25; (with_reducible refine (hix _).mono ?_); rintro e w1 ⟨rfl, rfl⟩)
        | (go_at_call 9; (with_reducible refine (h12 _).mono ?_); rintro e w1 ⟨rfl, rfl⟩))
      go_ret
      exact ⟨_, _, rfl, ⟨hasRow_u8 (n := 1) (l := [45]) rfl rfl (heap_new2 _ _ _), fresh_at (by simp)⟩, hgB.alloc _⟩
    · rw [hb] at h12
      show Calls _ _ _ _ (EncTo w (singR ei 109))
      go_enter Tryd.func18, Tryd.ntmps18
      go_wp2_with (first
        | (go_at_call 25; (with_reducible refine (hix _).mono ?_); rintro e w1 ⟨rfl, rfl⟩)
        | (go_at_call 9; (with_reducible refine (h12 _).mono ?_); rintro e w1 ⟨rfl, rfl⟩))
      go_region_held3 (fun w9 => w9.cell? ⟨w.heap.size, 6, none⟩ = some (.bool ei)) (first | go_keep | exact Gr.cellAt (by assumption) (by simp)) ((go_at_call 26; (with_reducible refine (hs _ hgD).mono ?_); rintro e w2 ⟨va, vc, rfl, hO, hg2⟩))
      all_goals go_wp2_with fail
      go_ret
      exact .of hO hgD.size (hgD.trans hg2)
  · have hix : ∀ W, Calls Tryd.prog 25 #[.string ⟨#[48, 49, 50, 51, 52, 53, 54, 55, 56, 57, 45, 44, 46, 13]⟩, .int .u8 44] W fun e w' => e = .returned (.int .i64 11) ∧ W = w' := fun W => (Tryd.strings_IndexByte _ _ W).mono fun e w' ⟨h1, h2⟩ => ⟨h1, h2.symm⟩
    have hs : ∀ W, Gr w W → Calls Tryd.prog 26 #[.bool ei, .int .u8 (((⟨#[112, 113, 114, 115, 116, 117, 118, 119, 120, 121, 109, 108, 110, 77]⟩ : ByteArray)[11]'(by decide)).toNat : Int)] W (AnsOwn W (singR ei 108)) := fun W hg => single_s (w := W) ei 108 (hT.gr hg)
    have hgD := hgB.drew
    cases hb : hasB m 12
    · rw [hb] at h12
      show Calls _ _ _ _ (EncTo w [44])
      go_enter Tryd.func18, Tryd.ntmps18
      go_wp2_with (first
        | (go_at_call 25; (with_reducible refine (hix _).mono ?_); rintro e w1 ⟨rfl, rfl⟩)
        | (go_at_call 9; (with_reducible refine (h12 _).mono ?_); rintro e w1 ⟨rfl, rfl⟩))
      go_ret
      exact ⟨_, _, rfl, ⟨hasRow_u8 (n := 1) (l := [44]) rfl rfl (heap_new2 _ _ _), fresh_at (by simp)⟩, hgB.alloc _⟩
    · rw [hb] at h12
      show Calls _ _ _ _ (EncTo w (singR ei 108))
      go_enter Tryd.func18, Tryd.ntmps18
      go_wp2_with (first
        | (go_at_call 25; (with_reducible refine (hix _).mono ?_); rintro e w1 ⟨rfl, rfl⟩)
        | (go_at_call 9; (with_reducible refine (h12 _).mono ?_); rintro e w1 ⟨rfl, rfl⟩))
      go_region_held3 (fun w9 => w9.cell? ⟨w.heap.size, 6, none⟩ = some (.bool ei)) (first | go_keep | exact Gr.cellAt (by assumption) (by simp)) ((go_at_call 26; (with_reducible refine (hs _ hgD).mono ?_); rintro e w2 ⟨va, vc, rfl, hO, hg2⟩))
      all_goals go_wp2_with fail
      go_ret
      exact .of hO hgD.size (hgD.trans hg2)
  · have hix : ∀ W, Calls Tryd.prog 25 #[.string ⟨#[48, 49, 50, 51, 52, 53, 54, 55, 56, 57, 45, 44, 46, 13]⟩, .int .u8 46] W fun e w' => e = .returned (.int .i64 12) ∧ W = w' := fun W => (Tryd.strings_IndexByte _ _ W).mono fun e w' ⟨h1, h2⟩ => ⟨h1, h2.symm⟩
    have hs : ∀ W, Gr w W → Calls Tryd.prog 26 #[.bool ei, .int .u8 (((⟨#[112, 113, 114, 115, 116, 117, 118, 119, 120, 121, 109, 108, 110, 77]⟩ : ByteArray)[12]'(by decide)).toNat : Int)] W (AnsOwn W (singR ei 110)) := fun W hg => single_s (w := W) ei 110 (hT.gr hg)
    have hgD := hgB.drew
    cases hb : hasB m 12
    · rw [hb] at h12
      show Calls _ _ _ _ (EncTo w [46])
      go_enter Tryd.func18, Tryd.ntmps18
      go_wp2_with (first
        | (go_at_call 25; (with_reducible refine (hix _).mono ?_); rintro e w1 ⟨rfl, rfl⟩)
        | (go_at_call 9; (with_reducible refine (h12 _).mono ?_); rintro e w1 ⟨rfl, rfl⟩))
      go_ret
      exact ⟨_, _, rfl, ⟨hasRow_u8 (n := 1) (l := [46]) rfl rfl (heap_new2 _ _ _), fresh_at (by simp)⟩, hgB.alloc _⟩
    · rw [hb] at h12
      show Calls _ _ _ _ (EncTo w (singR ei 110))
      go_enter Tryd.func18, Tryd.ntmps18
      go_wp2_with (first
        | (go_at_call 25; (with_reducible refine (hix _).mono ?_); rintro e w1 ⟨rfl, rfl⟩)
        | (go_at_call 9; (with_reducible refine (h12 _).mono ?_); rintro e w1 ⟨rfl, rfl⟩))
      go_region_held3 (fun w9 => w9.cell? ⟨w.heap.size, 6, none⟩ = some (.bool ei)) (first | go_keep | exact Gr.cellAt (by assumption) (by simp)) ((go_at_call 26; (with_reducible refine (hs _ hgD).mono ?_); rintro e w2 ⟨va, vc, rfl, hO, hg2⟩))
      all_goals go_wp2_with fail
      go_ret
      exact .of hO hgD.size (hgD.trans hg2)
  · have hix : ∀ W, Calls Tryd.prog 25 #[.string ⟨#[48, 49, 50, 51, 52, 53, 54, 55, 56, 57, 45, 44, 46, 13]⟩, .int .u8 13] W fun e w' => e = .returned (.int .i64 13) ∧ W = w' := fun W => (Tryd.strings_IndexByte _ _ W).mono fun e w' ⟨h1, h2⟩ => ⟨h1, h2.symm⟩
    have hs : ∀ W, Gr w W → Calls Tryd.prog 26 #[.bool ei, .int .u8 (((⟨#[112, 113, 114, 115, 116, 117, 118, 119, 120, 121, 109, 108, 110, 77]⟩ : ByteArray)[13]'(by decide)).toNat : Int)] W (AnsOwn W (singR ei 77)) := fun W hg => single_s (w := W) ei 77 (hT.gr hg)
    have hgD := hgB.drew
    cases hb : hasB m 12
    · rw [hb] at h12
      have hen := enter_any (w := w.alloc (.cells #[.int .i64 k, .int .u8 13, .bool sh, .bool ct, .int .u32 (m.toNat : Int), .int .i64 lv, .bool ei, .pointer (some ⟨p, 0, none⟩)] 53)) k 13 sh ct m lv ei p
      unfold cBoard at hen
      show Calls _ _ _ _ (EncTo w (enterK (hasB m 3)))
      go_enter Tryd.func18, Tryd.ntmps18
      go_wp2_with (first
        | (go_at_call 25; (with_reducible refine (hix _).mono ?_); rintro e w1 ⟨rfl, rfl⟩)
        | (go_at_call 9; (with_reducible refine (h12 _).mono ?_); rintro e w1 ⟨rfl, rfl⟩)
        | (go_at_call 14; (with_reducible refine hen.mono ?_); rintro e w2 ⟨va, vc, rfl, hO, hg2⟩))
      go_ret
      exact ⟨va, vc, rfl, ⟨hO.1, hO.2.mono hgB.size⟩, hgB.trans hg2⟩
    · rw [hb] at h12
      show Calls _ _ _ _ (EncTo w (singR ei 77))
      go_enter Tryd.func18, Tryd.ntmps18
      go_wp2_with (first
        | (go_at_call 25; (with_reducible refine (hix _).mono ?_); rintro e w1 ⟨rfl, rfl⟩)
        | (go_at_call 9; (with_reducible refine (h12 _).mono ?_); rintro e w1 ⟨rfl, rfl⟩))
      go_region_held3 (fun w9 => w9.cell? ⟨w.heap.size, 6, none⟩ = some (.bool ei)) (first | go_keep | exact Gr.cellAt (by assumption) (by simp)) ((go_at_call 26; (with_reducible refine (hs _ hgD).mono ?_); rintro e w2 ⟨va, vc, rfl, hO, hg2⟩))
      all_goals go_wp2_with fail
      go_ret
      exact .of hO hgD.size (hgD.trans hg2)
def fK (c : Int) (sh : Bool) (lv : Int) (eight : Bool) (L : Txs) : List Int :=
  if 1 ≤ c ∧ c ≤ 4 then singR eight (79 + c) else if lv < 2 ∧ c = 11 then [27] else if lv < 2 ∧ c = 12 then [8] else if lv < 2 ∧ c = 13 then [10] else if lv < 2 ∨ numK c = 0 then [] else if sh = true then bints (getZ L (numK c)) else csiR [126] [numK c] eight
theorem nums_bsl' (l : List UInt8) : nums (bsl l) = bints l := by unfold nums bints; rw [bsl_list]
set_option maxRecDepth 100000 in
set_option maxHeartbeats 2000000 in
theorem f_any {w : World} (k c : Int) (sh ct : Bool) (m : BitVec 32) (lv : Int) (ei : Bool) (p : Nat) {L : Txs} {lk : Bool} (hT : tabT w) (hK : KAt w p L lk) (hc : 0 ≤ c ∧ c < 256) : Calls Tryd.prog 19 #[.agg (cBoard k c sh ct m lv ei p)] w (EncTo w (fK c sh lv ei L)) := by
  unfold cBoard
  have hgB := (Gr.refl w).alloc (.cells #[.int .i64 k, .int .u8 c, .bool sh, .bool ct, .int .u32 (m.toNat : Int), .int .i64 lv, .bool ei, .pointer (some ⟨p, 0, none⟩)] 53)
  obtain ⟨hc0, hc1⟩ := hc
  have hcs : (c = 1 ∨ c = 2 ∨ c = 3 ∨ c = 4) ∨ (lv < 2 ∧ (c = 11 ∨ c = 12 ∨ c = 13)) ∨ (¬ (1 ≤ c ∧ c ≤ 4) ∧ lv < 2 ∧ ¬ (11 ≤ c ∧ c ≤ 13)) ∨ (¬ (1 ≤ c ∧ c ≤ 4) ∧ 2 ≤ lv) := by omega
  rcases hcs with h14 | ⟨hl, h13⟩ | ⟨h14, hl, h13⟩ | ⟨h14, hl⟩
  · rcases h14 with rfl | rfl | rfl | rfl
    · have hnum := number_any 1
      have hs := fun (W : World) (hg : Gr w W) => single_s (w := W) ei 80 (hT.gr hg)
      rw [show numK 1 = 0 from rfl] at hnum
      show Calls _ _ _ _ (EncTo w (singR ei 80))
      go_enter Tryd.func19, Tryd.ntmps19
      go_wp2_with (first
        | (go_at_call 27; (with_reducible refine (hnum _).mono ?_); rintro e w1 ⟨rfl, rfl⟩)
        | (go_at_call 26; (with_reducible refine (hs _ hgB).mono ?_); rintro e w2 ⟨va, vc, rfl, hO, hg2⟩))
      go_ret
      exact .of hO hgB.size (hgB.trans hg2)
    · have hnum := number_any 2
      have hs := fun (W : World) (hg : Gr w W) => single_s (w := W) ei 81 (hT.gr hg)
      rw [show numK 2 = 0 from rfl] at hnum
      show Calls _ _ _ _ (EncTo w (singR ei 81))
      go_enter Tryd.func19, Tryd.ntmps19
      go_wp2_with (first
        | (go_at_call 27; (with_reducible refine (hnum _).mono ?_); rintro e w1 ⟨rfl, rfl⟩)
        | (go_at_call 26; (with_reducible refine (hs _ hgB).mono ?_); rintro e w2 ⟨va, vc, rfl, hO, hg2⟩))
      go_ret
      exact .of hO hgB.size (hgB.trans hg2)
    · have hnum := number_any 3
      have hs := fun (W : World) (hg : Gr w W) => single_s (w := W) ei 82 (hT.gr hg)
      rw [show numK 3 = 0 from rfl] at hnum
      show Calls _ _ _ _ (EncTo w (singR ei 82))
      go_enter Tryd.func19, Tryd.ntmps19
      go_wp2_with (first
        | (go_at_call 27; (with_reducible refine (hnum _).mono ?_); rintro e w1 ⟨rfl, rfl⟩)
        | (go_at_call 26; (with_reducible refine (hs _ hgB).mono ?_); rintro e w2 ⟨va, vc, rfl, hO, hg2⟩))
      go_ret
      exact .of hO hgB.size (hgB.trans hg2)
    · have hnum := number_any 4
      have hs := fun (W : World) (hg : Gr w W) => single_s (w := W) ei 83 (hT.gr hg)
      rw [show numK 4 = 0 from rfl] at hnum
      show Calls _ _ _ _ (EncTo w (singR ei 83))
      go_enter Tryd.func19, Tryd.ntmps19
      go_wp2_with (first
        | (go_at_call 27; (with_reducible refine (hnum _).mono ?_); rintro e w1 ⟨rfl, rfl⟩)
        | (go_at_call 26; (with_reducible refine (hs _ hgB).mono ?_); rintro e w2 ⟨va, vc, rfl, hO, hg2⟩))
      go_ret
      exact .of hO hgB.size (hgB.trans hg2)
  · rcases h13 with rfl | rfl | rfl
    · have hnum := number_any 11
      rw [show numK 11 = 23 from rfl] at hnum
      have e : fK 11 sh lv ei L = [27] := by unfold fK; simp [hl]
      rw [e]
      clear e
      go_enter Tryd.func19, Tryd.ntmps19
      go_wp2_with (go_at_call 27; (with_reducible refine (hnum _).mono ?_); rintro e w1 ⟨rfl, rfl⟩)
      go_ret
      exact ⟨_, _, rfl, ⟨hasRow_u8 (n := 1) (l := [27]) rfl rfl (heap_new2 _ _ _), fresh_at (by simp)⟩, hgB.alloc _⟩
    · have hnum := number_any 12
      rw [show numK 12 = 24 from rfl] at hnum
      have e : fK 12 sh lv ei L = [8] := by unfold fK; simp [hl]
      rw [e]
      clear e
      go_enter Tryd.func19, Tryd.ntmps19
      go_wp2_with (go_at_call 27; (with_reducible refine (hnum _).mono ?_); rintro e w1 ⟨rfl, rfl⟩)
      go_ret
      exact ⟨_, _, rfl, ⟨hasRow_u8 (n := 1) (l := [8]) rfl rfl (heap_new2 _ _ _), fresh_at (by simp)⟩, hgB.alloc _⟩
    · have hnum := number_any 13
      rw [show numK 13 = 25 from rfl] at hnum
      have e : fK 13 sh lv ei L = [10] := by unfold fK; simp [hl]
      rw [e]
      clear e
      go_enter Tryd.func19, Tryd.ntmps19
      go_wp2_with (go_at_call 27; (with_reducible refine (hnum _).mono ?_); rintro e w1 ⟨rfl, rfl⟩)
      go_ret
      exact ⟨_, _, rfl, ⟨hasRow_u8 (n := 1) (l := [10]) rfl rfl (heap_new2 _ _ _), fresh_at (by simp)⟩, hgB.alloc _⟩
  · have hnum := number_any c
    have e : fK c sh lv ei L = [] := by unfold fK; rw [if_neg (by omega), if_neg (by omega), if_neg (by omega), if_neg (by omega), if_pos (.inl hl)]
    rw [e]
    obtain ⟨N, hN⟩ : ∃ N, N = numK c := ⟨_, rfl⟩
    rw [← hN] at hnum
    clear e hN
    have hs1 : c < 1 ∨ (1 ≤ c ∧ 4 < c) := by omega
    have hs2 : c < 11 ∨ (11 ≤ c ∧ 13 < c) := by omega
    clear h14 h13
    rcases hs1 with q1 | ⟨q1, q2⟩ <;> rcases hs2 with q3 | ⟨q3, q4⟩
    · go_enter Tryd.func19, Tryd.ntmps19
      go_wp2_with (go_at_call 27; (with_reducible refine (hnum _).mono ?_); rintro e w1 ⟨rfl, rfl⟩)
      go_ret
      exact ⟨none, 0, rfl, ⟨HasRow.nil _ _, fresh_nil⟩, hgB⟩
    · omega
    all_goals
      go_enter Tryd.func19, Tryd.ntmps19
      go_wp2_with (go_at_call 27; (with_reducible refine (hnum _).mono ?_); rintro e w1 ⟨rfl, rfl⟩)
      go_ret
      exact ⟨none, 0, rfl, ⟨HasRow.nil _ _, fresh_nil⟩, hgB⟩
  · have hnum := number_any c
    have hl2 : ¬ lv < 2 := by omega
    have e : fK c sh lv ei L = if numK c = 0 then [] else if sh = true then bints (getZ L (numK c)) else csiR [126] [numK c] ei := by
      unfold fK; rw [if_neg (by omega), if_neg (by omega), if_neg (by omega), if_neg (by omega)]
      simp [hl2]
    rw [e]
    obtain ⟨N, hN⟩ : ∃ N, N = numK c := ⟨_, rfl⟩
    rw [← hN] at hnum ⊢
    clear e hN
    have hs1 : c < 1 ∨ (1 ≤ c ∧ 4 < c) := by omega
    clear h14
    by_cases hN0 : N = 0
    · subst hN0
      rw [if_pos rfl]
      rcases hs1 with q1 | ⟨q1, q2⟩
      all_goals
        go_enter Tryd.func19, Tryd.ntmps19
        go_wp2_with (go_at_call 27; (with_reducible refine (hnum _).mono ?_); rintro e w1 ⟨rfl, rfl⟩)
        go_ret
        exact ⟨none, 0, rfl, ⟨HasRow.nil _ _, fresh_nil⟩, hgB⟩
    · rw [if_neg hN0]
      have hnb : (N == 0) = false := by simpa using hN0
      cases sh
      · have hn := numbered_any (w := w.alloc (.cells #[.int .i64 k, .int .u8 c, .bool false, .bool ct, .int .u32 (m.toNat : Int), .int .i64 lv, .bool ei, .pointer (some ⟨p, 0, none⟩)] 53)) k c false ct m lv ei p N (hT.gr hgB)
        unfold cBoard at hn
        show Calls _ _ _ _ (EncTo w (csiR [126] [N] ei))
        rcases hs1 with q1 | ⟨q1, q2⟩
        all_goals
          go_enter Tryd.func19, Tryd.ntmps19
          go_wp2_with (first
            | (go_at_call 27; (with_reducible refine (hnum _).mono ?_); rintro e w1 ⟨rfl, rfl⟩)
            | (go_at_call 29; (with_reducible refine hn.mono ?_); rintro e w2 ⟨va, vc, rfl, hO, hg2⟩))
          go_ret
          exact ⟨va, vc, rfl, ⟨hO.1, hO.2.mono hgB.size⟩, hgB.trans hg2⟩
      · have hget := get_any N (hK.gr hgB)
        obtain ⟨s, hs⟩ : ∃ s, s = bsl (getZ L N) := ⟨_, rfl⟩
        obtain ⟨b, hb⟩ : ∃ b, b = !(getZ L N).isEmpty := ⟨_, rfl⟩
        rw [← hs, ← hb] at hget
        have hns : nums s = bints (getZ L N) := by rw [hs, nums_bsl']
        rw [if_pos rfl, ← hns]
        clear hs hb hns
        have hlen : (nums s).length = s.size := nums_len s
        unfold EncTo
        rw [hlen]
        clear hlen
        rcases hs1 with q1 | ⟨q1, q2⟩
        all_goals
          go_enter Tryd.func19, Tryd.ntmps19
          go_wp2_with (first
            | (go_at_call 27; (with_reducible refine (hnum _).mono ?_); rintro e w1 ⟨rfl, rfl⟩)
            | (go_at_call 28; (with_reducible refine hget.mono ?_); rintro e w2 ⟨rfl, rfl⟩)
            | ((with_reducible refine wpList_s2bH rfl _ _ _ rfl Tryd.underlying9 bytesT Tryd.underlying5 s rfl ?_); intro cb w3 hrow hg3 hz3))
          go_ret
          have e9 : (w.alloc (.cells #[.int .i64 k, .int .u8 c, .bool true, .bool ct, .int .u32 (m.toNat : Int), .int .i64 lv, .bool ei, .pointer (some ⟨p, 0, none⟩)] 53)).heap.size = w.heap.size + 1 := by simp
          rw [e9] at hrow
          exact ⟨_, cb, rfl, ⟨hrow, fresh_at (by omega)⟩, hgB.trans hg3⟩
end Go.Proofs.YtnnhaenmoifplaaDoor
