/-
  What the keyboard sends: the plain law; modes as bits; the board's small functions, walked.
  What the keyboard sends: the board's functions, walked (gen_kyb.py).
-/
import Derived.Laws.BitsLemmas
import Derived.Lib.SlBytesConst
import Derived.Test.YtnnhaenmoifplaaDoorZRyS
import Derived.Test.YtnnhaenmoifplaaDoorZUdH
namespace Go.Proofs.YtnnhaenmoifplaaDoor
set_option linter.unusedSimpArgs false
set_option linter.unusedVariables false
open Go.RowKit
set_option linter.unusedVariables false

/-! ### Modes -/
theorem ofInt_u32 (a : BitVec 32) : BitVec.ofInt 32 (a.toNat : Int) = a := by rw [BitVec.ofInt_natCast]; simp
theorem kwrap_u32 (a : BitVec 32) : IntKind.u32.wrap (a.toNat : Int) = (a.toNat : Int) := by
  have := a.isLt
  rw [IntKind.wrap_u32]; omega
theorem u32_and (a b : BitVec 32) : bits .and .u32 (a.toNat : Int) (b.toNat : Int) = ((a &&& b).toNat : Int) := by
  show IntKind.u32.wrap ((BitVec.ofInt 32 (a.toNat : Int) &&& BitVec.ofInt 32 (b.toNat : Int)).toNat : Int) = _
  rw [ofInt_u32, ofInt_u32, kwrap_u32]
def hasB (m : BitVec 32) (x : Nat) : Bool := m.getLsbD x
set_option maxRecDepth 100000 in
theorem is_true (x : Int) (h0 : 0 ≤ x) (h1 : x < 17) (w : World) : Calls Tryd.prog 12 #[.int .i64 x] w fun e w' => e = .returned (.bool true) ∧ w = w' := by
  go_enter Tryd.func12, Tryd.ntmps12
  go_wp2_with fail
  go_ret
  exact ⟨rfl, rfl⟩
theorem has_bit (m : BitVec 32) (x : Nat) (k : Int) (hk : k = ((m.toNat / 2 ^ x : Nat) : Int)) : (bits .and .u32 k 1 == 1) = hasB m x := by
  have e1 : k = ((m >>> x).toNat : Int) := by rw [hk, BitVec.toNat_ushiftRight, Nat.shiftRight_eq_div_pow]
  have e2 : (1 : Int) = ((1#32).toNat : Int) := rfl
  have e3 : bits .and .u32 k 1 = ((m.toNat / 2 ^ x % 2 : Nat) : Int) := by
    rw [e1]
    conv => lhs; rw [e2]
    rw [u32_and, BitVec.toNat_and, BitVec.toNat_ushiftRight, Nat.shiftRight_eq_div_pow, show (1#32).toNat = 1 from rfl, Nat.and_one_is_mod]
  rw [e3]
  unfold hasB
  rw [BitVec.getLsbD, Nat.testBit_eq_decide_div_mod_eq]
  have h01 : m.toNat / 2 ^ x % 2 = 0 ∨ m.toNat / 2 ^ x % 2 = 1 := by omega
  rcases h01 with h | h <;> rw [h] <;> rfl
set_option maxRecDepth 100000 in
theorem has_0 (m : BitVec 32) (w : World) : Calls Tryd.prog 9 #[.int .u32 (m.toNat : Int), .int .i64 0] w fun e w' => e = .returned (.bool (hasB m 0)) ∧ w = w' := by
  have hb : (bits .and .u32 (m.toNat : Int) 1 == 1) = hasB m 0 := has_bit m 0 _ (by simp)
  have hlt := m.isLt
  have h0 : (0 : Int) ≤ (m.toNat : Int) := by omega
  have h1 : (m.toNat : Int) < 4294967296 := by omega
  go_enter Tryd.func9, Tryd.ntmps9
  go_wp2_with (go_at_call 12; (with_reducible refine (is_true _ (by omega) (by omega) _).mono ?_); rintro e w1 ⟨rfl, rfl⟩)
  go_ret
  exact ⟨rfl, rfl⟩
set_option maxRecDepth 100000 in
theorem has_3 (m : BitVec 32) (w : World) : Calls Tryd.prog 9 #[.int .u32 (m.toNat : Int), .int .i64 3] w fun e w' => e = .returned (.bool (hasB m 3)) ∧ w = w' := by
  have hb : (bits .and .u32 ((m.toNat : Int) / 8) 1 == 1) = hasB m 3 := has_bit m 3 _ (by rw [Int.natCast_ediv]; rfl)
  have hlt := m.isLt
  have h0 : (0 : Int) ≤ (m.toNat : Int) := by omega
  have h1 : (m.toNat : Int) < 4294967296 := by omega
  go_enter Tryd.func9, Tryd.ntmps9
  go_wp2_with (go_at_call 12; (with_reducible refine (is_true _ (by omega) (by omega) _).mono ?_); rintro e w1 ⟨rfl, rfl⟩)
  go_ret
  exact ⟨rfl, rfl⟩
set_option maxRecDepth 100000 in
theorem has_4 (m : BitVec 32) (w : World) : Calls Tryd.prog 9 #[.int .u32 (m.toNat : Int), .int .i64 4] w fun e w' => e = .returned (.bool (hasB m 4)) ∧ w = w' := by
  have hb : (bits .and .u32 ((m.toNat : Int) / 16) 1 == 1) = hasB m 4 := has_bit m 4 _ (by rw [Int.natCast_ediv]; rfl)
  have hlt := m.isLt
  have h0 : (0 : Int) ≤ (m.toNat : Int) := by omega
  have h1 : (m.toNat : Int) < 4294967296 := by omega
  go_enter Tryd.func9, Tryd.ntmps9
  go_wp2_with (go_at_call 12; (with_reducible refine (is_true _ (by omega) (by omega) _).mono ?_); rintro e w1 ⟨rfl, rfl⟩)
  go_ret
  exact ⟨rfl, rfl⟩
set_option maxRecDepth 100000 in
theorem has_12 (m : BitVec 32) (w : World) : Calls Tryd.prog 9 #[.int .u32 (m.toNat : Int), .int .i64 12] w fun e w' => e = .returned (.bool (hasB m 12)) ∧ w = w' := by
  have hb : (bits .and .u32 ((m.toNat : Int) / 4096) 1 == 1) = hasB m 12 := has_bit m 12 _ (by rw [Int.natCast_ediv]; rfl)
  have hlt := m.isLt
  have h0 : (0 : Int) ≤ (m.toNat : Int) := by omega
  have h1 : (m.toNat : Int) < 4294967296 := by omega
  go_enter Tryd.func9, Tryd.ntmps9
  go_wp2_with (go_at_call 12; (with_reducible refine (is_true _ (by omega) (by omega) _).mono ?_); rintro e w1 ⟨rfl, rfl⟩)
  go_ret
  exact ⟨rfl, rfl⟩
set_option maxRecDepth 100000 in
theorem has_13 (m : BitVec 32) (w : World) : Calls Tryd.prog 9 #[.int .u32 (m.toNat : Int), .int .i64 13] w fun e w' => e = .returned (.bool (hasB m 13)) ∧ w = w' := by
  have hb : (bits .and .u32 ((m.toNat : Int) / 8192) 1 == 1) = hasB m 13 := has_bit m 13 _ (by rw [Int.natCast_ediv]; rfl)
  have hlt := m.isLt
  have h0 : (0 : Int) ≤ (m.toNat : Int) := by omega
  have h1 : (m.toNat : Int) < 4294967296 := by omega
  go_enter Tryd.func9, Tryd.ntmps9
  go_wp2_with (go_at_call 12; (with_reducible refine (is_true _ (by omega) (by omega) _).mono ?_); rintro e w1 ⟨rfl, rfl⟩)
  go_ret
  exact ⟨rfl, rfl⟩
/-- Has, at the five modes that keys ask for. -/
structure HasFor (m : BitVec 32) : Prop where
  h0 : ∀ W, Calls Tryd.prog 9 #[.int .u32 (m.toNat : Int), .int .i64 0] W fun e w' => e = .returned (.bool (hasB m 0)) ∧ W = w'
  h3 : ∀ W, Calls Tryd.prog 9 #[.int .u32 (m.toNat : Int), .int .i64 3] W fun e w' => e = .returned (.bool (hasB m 3)) ∧ W = w'
  h4 : ∀ W, Calls Tryd.prog 9 #[.int .u32 (m.toNat : Int), .int .i64 4] W fun e w' => e = .returned (.bool (hasB m 4)) ∧ W = w'
  h12 : ∀ W, Calls Tryd.prog 9 #[.int .u32 (m.toNat : Int), .int .i64 12] W fun e w' => e = .returned (.bool (hasB m 12)) ∧ W = w'
  h13 : ∀ W, Calls Tryd.prog 9 #[.int .u32 (m.toNat : Int), .int .i64 13] W fun e w' => e = .returned (.bool (hasB m 13)) ∧ W = w'
theorem hasFor (m : BitVec 32) : HasFor m := ⟨has_0 m, has_3 m, has_4 m, has_12 m, has_13 m⟩
/-! ### Keys -/
/-- Memory of the call's own. -/
def FreshV (w : World) (v : Value) : Prop := ∀ k, v.ownBlock = some k → w.heap.size ≤ k
theorem FreshV.mono {w w' : World} {v : Value} (h : FreshV w' v) (hs : w.heap.size ≤ w'.heap.size) : FreshV w v := fun k hk => Nat.le_trans hs (h k hk)
theorem fresh_nil {w : World} {c : Nat} : FreshV w (.slice none 0 c) := fun k hk => by simp [Value.ownBlock] at hk
theorem fresh_at {w : World} {g o n c : Nat} (h : w.heap.size ≤ g) : FreshV w (.slice (some ⟨g, o, none⟩) n c) := fun k hk => by
  cases o with
  | zero => simp [Value.ownBlock] at hk; omega
  | succ o => first | (simp [Value.ownBlock] at hk; omega) | (simp [Value.ownBlock] at hk)
theorem own_fresh {w w' : World} {B T size n : Nat} {v : Value} {xs : List Value} (h : w'.ownsRow B T size v n xs) (hs : w.heap.size ≤ B) : FreshV w v := by
  obtain ⟨_, ⟨rfl, _⟩ | ⟨g, cap, cur, rfl, hB, _⟩⟩ := h
  · exact fresh_nil
  · exact fresh_at (Nat.le_trans hs hB)
def EncTo (w : World) (L : List Int) (e : Ending) (w' : World) : Prop := ∃ va vc, e = .returned (.slice va L.length vc) ∧ (HasRow w' 5 (.slice va L.length vc) L.length (bcells L) ∧ FreshV w (.slice va L.length vc)) ∧ Gr w w'
def cBoard (k c : Int) (sh ct : Bool) (m : BitVec 32) (lv : Int) (ei : Bool) (p : Nat) : Array Value := #[.int .i64 k, .int .u8 c, .bool sh, .bool ct, .int .u32 (m.toNat : Int), .int .i64 lv, .bool ei, .pointer (some ⟨p, 0, none⟩)]
def enterK (lnm : Bool) : List Int := if lnm = true then [13, 10] else [13]
theorem hasRow_u8 {w : World} {g n : Nat} {l : List Int} {cs : Array Value} {fr : Nat × Nat} (hn : l.length = n) (hc : cs = (bcells l).toArray) (h : w.heap[g]? = some (.cells cs 5 fr)) : HasRow w 5 (.slice (some ⟨g, 0, none⟩) n n) n (bcells l) := by
  subst hc
  have hl : (bcells l).length = n := by simpa [bcells] using hn
  exact ⟨hl, .inr ⟨g, n, _, rfl, ⟨_, h⟩, Nat.le_refl _, by simp [hl], List.take_of_length_le (by simp [hl])⟩⟩
theorem conv_lit (w : World) (o : Obj) (C : Array Value) (n c : Nat) : (convert 32 32 (.slice (some ⟨w.heap.size + 1, 0, none⟩) n c)).run Tryd.prog ((w.alloc o).alloc (.cells C 5)) = .ok (.slice (some ⟨w.heap.size + 1, 0, none⟩) n c) ((w.alloc o).alloc (.cells C 5 (C.size, C.size + 1))) := by
  have := Lib.run_convert_bytes_const (P := Tryd.prog) (w.alloc o) 32 5 C n c Tryd.underlying32 Tryd.underlying5
  simpa using this
set_option maxRecDepth 100000 in
theorem enter_any {w : World} (k c : Int) (sh ct : Bool) (m : BitVec 32) (lv : Int) (ei : Bool) (p : Nat) : Calls Tryd.prog 14 #[.agg (cBoard k c sh ct m lv ei p)] w (EncTo w (enterK (hasB m 3))) := by
  unfold cBoard
  have hcv := conv_lit w
  have h3 := (hasFor m).h3
  cases hb : hasB m 3
  · rw [hb] at h3
    have hg := (Gr.refl w).alloc (.cells #[.int .i64 k, .int .u8 c, .bool sh, .bool ct, .int .u32 (m.toNat : Int), .int .i64 lv, .bool ei, .pointer (some ⟨p, 0, none⟩)] 53)
    go_enter Tryd.func14, Tryd.ntmps14
    go_wp2_with (go_at_call 9; (with_reducible refine (h3 _).mono ?_); rintro e w1 ⟨rfl, rfl⟩)
    go_ret
    exact ⟨_, _, rfl, ⟨hasRow_u8 (n := 1) (l := [13]) rfl rfl (heap_new2 _ _ _), fresh_at (by simp)⟩, hg.alloc _⟩
  · rw [hb] at h3
    have hg := (Gr.refl w).alloc (.cells #[.int .i64 k, .int .u8 c, .bool sh, .bool ct, .int .u32 (m.toNat : Int), .int .i64 lv, .bool ei, .pointer (some ⟨p, 0, none⟩)] 53)
    go_enter Tryd.func14, Tryd.ntmps14
    go_wp2_with (go_at_call 9; (with_reducible refine (h3 _).mono ?_); rintro e w1 ⟨rfl, rfl⟩)
    go_ret
    exact ⟨_, _, rfl, ⟨hasRow_u8 (n := 2) (l := [13, 10]) rfl rfl (heap_new2 _ _ _), fresh_at (by simp)⟩, hg.alloc _⟩
end Go.Proofs.YtnnhaenmoifplaaDoor

namespace Go.Proofs.YtnnhaenmoifplaaDoor
set_option linter.unusedSimpArgs false
set_option linter.unusedVariables false
open Go.RowKit
set_option linter.unusedVariables false

def singR (eight : Bool) (c : Int) : List Int := pairR 79 eight ++ [c]
def tabK (sh : Bool) (lv : Int) (eight : Bool) : List Int := if sh = true ∧ 2 ≤ lv then csiR [90] [] eight else [9]
def backK (bkm : Bool) : List Int := if bkm = true then [8] else [127]
def arrowK (k : Int) (ckm eight : Bool) : List Int := if ckm = true then singR eight (60 + k) else csiR [60 + k] [] eight
def editK (k lv : Int) (eight : Bool) : List Int := if lv < 2 then [] else csiR [126] [k - 8] eight
theorem EncTo.of {w : World} {L : List Int} {va : Option Addr} {vc : Nat} {w' : World} {B : Nat} (h : w'.ownsRow B 5 1 (.slice va L.length vc) L.length (bcells L)) (hs : w.heap.size ≤ B) (hg : Gr w w') : EncTo w L (.returned (.slice va L.length vc)) w' := ⟨va, vc, rfl, ⟨HasRow.of_own h, own_fresh h hs⟩, hg⟩
theorem single_s {w : World} (eight : Bool) (c : Int) (hT : tabT w) : Calls Tryd.prog 26 #[.bool eight, .int .u8 c] w (AnsOwn w (singR eight c)) := single_any eight c hT
theorem conv_b1 (w : World) (o : Obj) (c : Int) : (convert 32 9 (.slice (some ⟨w.heap.size + 1, 0, none⟩) 1 1)).run Tryd.prog ((w.alloc o).alloc (.cells #[.int .u8 c] 5)) = .ok (.string (strOf [c])) ((w.alloc o).alloc (.cells #[.int .u8 c] 5)) := by
  have := conv1 (w.alloc o) c
  simpa using this
/-- A sequence without numbers; one with one. -/
theorem csi0 {w W : World} (s : ByteArray) (L : List Int) (eight : Bool) (hL : nums s = L) (hs : s.size ≤ 1000) (hT : tabT w) (hg : Gr w W) : Calls Tryd.prog 24 #[.bool eight, .string s, .slice none 0 0] W (AnsOwn W (csiR L [] eight)) := by
  subst hL; exact csi_any eight (ps := []) (HasRow.nil W _) (by omega) hs (hT.gr hg)
set_option maxRecDepth 100000 in
set_option maxHeartbeats 2000000 in
theorem tab_any {w : World} (k c : Int) (sh ct : Bool) (m : BitVec 32) (lv : Int) (ei : Bool) (p : Nat) (hT : tabT w) : Calls Tryd.prog 15 #[.agg (cBoard k c sh ct m lv ei p)] w (EncTo w (tabK sh lv ei)) := by
  unfold cBoard
  have hgB := (Gr.refl w).alloc (.cells #[.int .i64 k, .int .u8 c, .bool sh, .bool ct, .int .u32 (m.toNat : Int), .int .i64 lv, .bool ei, .pointer (some ⟨p, 0, none⟩)] 53)
  have hc := csi0 ⟨#[90]⟩ [90] ei rfl (by decide) hT hgB
  have hcv := conv_lit w
  by_cases h : sh = true ∧ 2 ≤ lv
  · obtain ⟨rfl, h2⟩ := h
    have e : tabK true lv ei = csiR [90] [] ei := if_pos ⟨rfl, h2⟩
    rw [e]
    clear e
    go_enter Tryd.func15, Tryd.ntmps15
    go_wp2_with (go_at_call 24; (with_reducible refine hc.mono ?_); rintro e w1 ⟨va, vc, rfl, hO, hg1⟩)
    go_ret
    exact .of hO hgB.size (hgB.trans hg1)
  · have e : tabK sh lv ei = [9] := if_neg h
    rw [e]
    clear e hc
    cases sh
    · clear h
      go_enter Tryd.func15, Tryd.ntmps15
      go_wp2_with fail
      go_ret
      exact ⟨_, _, rfl, ⟨hasRow_u8 (n := 1) (l := [9]) rfl rfl (heap_new2 _ _ _), fresh_at (by simp)⟩, hgB.alloc _⟩
    · have h2 : ¬ 2 ≤ lv := fun x => h ⟨rfl, x⟩
      clear h
      go_enter Tryd.func15, Tryd.ntmps15
      go_wp2_with fail
      go_ret
      exact ⟨_, _, rfl, ⟨hasRow_u8 (n := 1) (l := [9]) rfl rfl (heap_new2 _ _ _), fresh_at (by simp)⟩, hgB.alloc _⟩
set_option maxRecDepth 100000 in
set_option maxHeartbeats 2000000 in
theorem back_any {w : World} (k c : Int) (sh ct : Bool) (m : BitVec 32) (lv : Int) (ei : Bool) (p : Nat)  : Calls Tryd.prog 16 #[.agg (cBoard k c sh ct m lv ei p)] w (EncTo w (backK (hasB m 13))) := by
  unfold cBoard
  have hgB := (Gr.refl w).alloc (.cells #[.int .i64 k, .int .u8 c, .bool sh, .bool ct, .int .u32 (m.toNat : Int), .int .i64 lv, .bool ei, .pointer (some ⟨p, 0, none⟩)] 53)
  have hcv := conv_lit w
  have h13 := (hasFor m).h13
  cases hb : hasB m 13
  · rw [hb] at h13
    go_enter Tryd.func16, Tryd.ntmps16
    go_wp2_with (go_at_call 9; (with_reducible refine (h13 _).mono ?_); rintro e w1 ⟨rfl, rfl⟩)
    go_ret
    exact ⟨_, _, rfl, ⟨hasRow_u8 (n := 1) (l := [127]) rfl rfl (heap_new2 _ _ _), fresh_at (by simp)⟩, hgB.alloc _⟩
  · rw [hb] at h13
    go_enter Tryd.func16, Tryd.ntmps16
    go_wp2_with (go_at_call 9; (with_reducible refine (h13 _).mono ?_); rintro e w1 ⟨rfl, rfl⟩)
    go_ret
    exact ⟨_, _, rfl, ⟨hasRow_u8 (n := 1) (l := [8]) rfl rfl (heap_new2 _ _ _), fresh_at (by simp)⟩, hgB.alloc _⟩
set_option maxRecDepth 100000 in
set_option maxHeartbeats 2000000 in
theorem escape_any {w : World} (k c : Int) (sh ct : Bool) (m : BitVec 32) (lv : Int) (ei : Bool) (p : Nat)  : Calls Tryd.prog 17 #[.agg (cBoard k c sh ct m lv ei p)] w (EncTo w ([27])) := by
  unfold cBoard
  have hgB := (Gr.refl w).alloc (.cells #[.int .i64 k, .int .u8 c, .bool sh, .bool ct, .int .u32 (m.toNat : Int), .int .i64 lv, .bool ei, .pointer (some ⟨p, 0, none⟩)] 53)
  have hcv := conv_lit w
  go_enter Tryd.func17, Tryd.ntmps17
  go_wp2_with fail
  go_ret
  exact ⟨_, _, rfl, ⟨hasRow_u8 (n := 1) (l := [27]) rfl rfl (heap_new2 _ _ _), fresh_at (by simp)⟩, hgB.alloc _⟩
set_option maxRecDepth 100000 in
set_option maxHeartbeats 2000000 in
theorem arrow_any {w : World} (k c : Int) (sh ct : Bool) (m : BitVec 32) (lv : Int) (ei : Bool) (p : Nat) (hT : tabT w) (hk : k = 5 ∨ k = 6 ∨ k = 7 ∨ k = 8) : Calls Tryd.prog 20 #[.agg (cBoard k c sh ct m lv ei p)] w (EncTo w (arrowK k (hasB m 4) ei)) := by
  unfold cBoard
  have hgB := (Gr.refl w).alloc (.cells #[.int .i64 k, .int .u8 c, .bool sh, .bool ct, .int .u32 (m.toNat : Int), .int .i64 lv, .bool ei, .pointer (some ⟨p, 0, none⟩)] 53)
  clear hgB
  have h4 := (hasFor m).h4
  rcases hk with rfl | rfl | rfl | rfl
  · have hbx := ((Gr.refl w).alloc (.cells #[.int .i64 5, .int .u8 c, .bool sh, .bool ct, .int .u32 (m.toNat : Int), .int .i64 lv, .bool ei, .pointer (some ⟨p, 0, none⟩)] 53))
    have hk1 := single_s (w := w.alloc (.cells #[.int .i64 5, .int .u8 c, .bool sh, .bool ct, .int .u32 (m.toNat : Int), .int .i64 lv, .bool ei, .pointer (some ⟨p, 0, none⟩)] 53)) ei 65 (hT.gr hbx)
    have hcn := conv_b1 w (.cells #[.int .i64 5, .int .u8 c, .bool sh, .bool ct, .int .u32 (m.toNat : Int), .int .i64 lv, .bool ei, .pointer (some ⟨p, 0, none⟩)] 53) 65
    have hcs := csi0 (W := (w.alloc (.cells #[.int .i64 5, .int .u8 c, .bool sh, .bool ct, .int .u32 (m.toNat : Int), .int .i64 lv, .bool ei, .pointer (some ⟨p, 0, none⟩)] 53)).alloc (.cells #[.int .u8 65] 5)) (strOf [65]) [65] ei rfl (by decide) hT (hbx.alloc _)
    cases hb : hasB m 4
    · rw [hb] at h4
      show Calls _ _ _ _ (EncTo w (csiR [65] [] ei))
      go_enter Tryd.func20, Tryd.ntmps20
      go_wp2_with (first
        | (go_at_call 9; (with_reducible refine (h4 _).mono ?_); rintro e w1 ⟨rfl, rfl⟩)
        | (go_at_call 24; (with_reducible refine hcs.mono ?_); rintro e w1 ⟨va, vc, rfl, hO, hg1⟩))
      go_ret
      exact .of hO ((hbx.alloc _).size) ((hbx.alloc _).trans hg1)
    · rw [hb] at h4
      show Calls _ _ _ _ (EncTo w (singR ei 65))
      go_enter Tryd.func20, Tryd.ntmps20
      go_wp2_with (first
        | (go_at_call 9; (with_reducible refine (h4 _).mono ?_); rintro e w1 ⟨rfl, rfl⟩)
        | (go_at_call 26; (with_reducible refine hk1.mono ?_); rintro e w1 ⟨va, vc, rfl, hO, hg1⟩))
      go_ret
      exact .of hO hbx.size (hbx.trans hg1)
  · have hbx := ((Gr.refl w).alloc (.cells #[.int .i64 6, .int .u8 c, .bool sh, .bool ct, .int .u32 (m.toNat : Int), .int .i64 lv, .bool ei, .pointer (some ⟨p, 0, none⟩)] 53))
    have hk1 := single_s (w := w.alloc (.cells #[.int .i64 6, .int .u8 c, .bool sh, .bool ct, .int .u32 (m.toNat : Int), .int .i64 lv, .bool ei, .pointer (some ⟨p, 0, none⟩)] 53)) ei 66 (hT.gr hbx)
    have hcn := conv_b1 w (.cells #[.int .i64 6, .int .u8 c, .bool sh, .bool ct, .int .u32 (m.toNat : Int), .int .i64 lv, .bool ei, .pointer (some ⟨p, 0, none⟩)] 53) 66
    have hcs := csi0 (W := (w.alloc (.cells #[.int .i64 6, .int .u8 c, .bool sh, .bool ct, .int .u32 (m.toNat : Int), .int .i64 lv, .bool ei, .pointer (some ⟨p, 0, none⟩)] 53)).alloc (.cells #[.int .u8 66] 5)) (strOf [66]) [66] ei rfl (by decide) hT (hbx.alloc _)
    cases hb : hasB m 4
    · rw [hb] at h4
      show Calls _ _ _ _ (EncTo w (csiR [66] [] ei))
      go_enter Tryd.func20, Tryd.ntmps20
      go_wp2_with (first
        | (go_at_call 9; (with_reducible refine (h4 _).mono ?_); rintro e w1 ⟨rfl, rfl⟩)
        | (go_at_call 24; (with_reducible refine hcs.mono ?_); rintro e w1 ⟨va, vc, rfl, hO, hg1⟩))
      go_ret
      exact .of hO ((hbx.alloc _).size) ((hbx.alloc _).trans hg1)
    · rw [hb] at h4
      show Calls _ _ _ _ (EncTo w (singR ei 66))
      go_enter Tryd.func20, Tryd.ntmps20
      go_wp2_with (first
        | (go_at_call 9; (with_reducible refine (h4 _).mono ?_); rintro e w1 ⟨rfl, rfl⟩)
        | (go_at_call 26; (with_reducible refine hk1.mono ?_); rintro e w1 ⟨va, vc, rfl, hO, hg1⟩))
      go_ret
      exact .of hO hbx.size (hbx.trans hg1)
  · have hbx := ((Gr.refl w).alloc (.cells #[.int .i64 7, .int .u8 c, .bool sh, .bool ct, .int .u32 (m.toNat : Int), .int .i64 lv, .bool ei, .pointer (some ⟨p, 0, none⟩)] 53))
    have hk1 := single_s (w := w.alloc (.cells #[.int .i64 7, .int .u8 c, .bool sh, .bool ct, .int .u32 (m.toNat : Int), .int .i64 lv, .bool ei, .pointer (some ⟨p, 0, none⟩)] 53)) ei 67 (hT.gr hbx)
    have hcn := conv_b1 w (.cells #[.int .i64 7, .int .u8 c, .bool sh, .bool ct, .int .u32 (m.toNat : Int), .int .i64 lv, .bool ei, .pointer (some ⟨p, 0, none⟩)] 53) 67
    have hcs := csi0 (W := (w.alloc (.cells #[.int .i64 7, .int .u8 c, .bool sh, .bool ct, .int .u32 (m.toNat : Int), .int .i64 lv, .bool ei, .pointer (some ⟨p, 0, none⟩)] 53)).alloc (.cells #[.int .u8 67] 5)) (strOf [67]) [67] ei rfl (by decide) hT (hbx.alloc _)
    cases hb : hasB m 4
    · rw [hb] at h4
      show Calls _ _ _ _ (EncTo w (csiR [67] [] ei))
      go_enter Tryd.func20, Tryd.ntmps20
      go_wp2_with (first
        | (go_at_call 9; (with_reducible refine (h4 _).mono ?_); rintro e w1 ⟨rfl, rfl⟩)
        | (go_at_call 24; (with_reducible refine hcs.mono ?_); rintro e w1 ⟨va, vc, rfl, hO, hg1⟩))
      go_ret
      exact .of hO ((hbx.alloc _).size) ((hbx.alloc _).trans hg1)
    · rw [hb] at h4
      show Calls _ _ _ _ (EncTo w (singR ei 67))
      go_enter Tryd.func20, Tryd.ntmps20
      go_wp2_with (first
        | (go_at_call 9; (with_reducible refine (h4 _).mono ?_); rintro e w1 ⟨rfl, rfl⟩)
        | (go_at_call 26; (with_reducible refine hk1.mono ?_); rintro e w1 ⟨va, vc, rfl, hO, hg1⟩))
      go_ret
      exact .of hO hbx.size (hbx.trans hg1)
  · have hbx := ((Gr.refl w).alloc (.cells #[.int .i64 8, .int .u8 c, .bool sh, .bool ct, .int .u32 (m.toNat : Int), .int .i64 lv, .bool ei, .pointer (some ⟨p, 0, none⟩)] 53))
    have hk1 := single_s (w := w.alloc (.cells #[.int .i64 8, .int .u8 c, .bool sh, .bool ct, .int .u32 (m.toNat : Int), .int .i64 lv, .bool ei, .pointer (some ⟨p, 0, none⟩)] 53)) ei 68 (hT.gr hbx)
    have hcn := conv_b1 w (.cells #[.int .i64 8, .int .u8 c, .bool sh, .bool ct, .int .u32 (m.toNat : Int), .int .i64 lv, .bool ei, .pointer (some ⟨p, 0, none⟩)] 53) 68
    have hcs := csi0 (W := (w.alloc (.cells #[.int .i64 8, .int .u8 c, .bool sh, .bool ct, .int .u32 (m.toNat : Int), .int .i64 lv, .bool ei, .pointer (some ⟨p, 0, none⟩)] 53)).alloc (.cells #[.int .u8 68] 5)) (strOf [68]) [68] ei rfl (by decide) hT (hbx.alloc _)
    cases hb : hasB m 4
    · rw [hb] at h4
      show Calls _ _ _ _ (EncTo w (csiR [68] [] ei))
      go_enter Tryd.func20, Tryd.ntmps20
      go_wp2_with (first
        | (go_at_call 9; (with_reducible refine (h4 _).mono ?_); rintro e w1 ⟨rfl, rfl⟩)
        | (go_at_call 24; (with_reducible refine hcs.mono ?_); rintro e w1 ⟨va, vc, rfl, hO, hg1⟩))
      go_ret
      exact .of hO ((hbx.alloc _).size) ((hbx.alloc _).trans hg1)
    · rw [hb] at h4
      show Calls _ _ _ _ (EncTo w (singR ei 68))
      go_enter Tryd.func20, Tryd.ntmps20
      go_wp2_with (first
        | (go_at_call 9; (with_reducible refine (h4 _).mono ?_); rintro e w1 ⟨rfl, rfl⟩)
        | (go_at_call 26; (with_reducible refine hk1.mono ?_); rintro e w1 ⟨va, vc, rfl, hO, hg1⟩))
      go_ret
      exact .of hO hbx.size (hbx.trans hg1)
set_option maxRecDepth 100000 in
set_option maxHeartbeats 2000000 in
theorem numbered_any {w : World} (k c : Int) (sh ct : Bool) (m : BitVec 32) (lv : Int) (ei : Bool) (p : Nat) (n : Int) (hT : tabT w) : Calls Tryd.prog 29 #[.agg (cBoard k c sh ct m lv ei p), .int .i64 n] w (EncTo w (csiR [126] [n] ei)) := by
  unfold cBoard
  have hgB := (Gr.refl w).alloc (.cells #[.int .i64 k, .int .u8 c, .bool sh, .bool ct, .int .u32 (m.toNat : Int), .int .i64 lv, .bool ei, .pointer (some ⟨p, 0, none⟩)] 53)
  have hc := fun (W : World) (g : Nat) (a : Int) (hg : Gr w W) (h : W.heap[g]? = some (.cells #[.int .i64 a] 3 (0, 0))) => csi_any (s := ⟨#[126]⟩) ei (hasRow_lit (n := 1) (l := [a]) rfl rfl h) (by omega) (by decide) (hT.gr hg)
  rw [show nums ⟨#[126]⟩ = [126] from rfl] at hc
  go_enter Tryd.func29, Tryd.ntmps29
  go_wp2_with (go_at_call 24; (with_reducible refine (hc _ _ _ (hgB.alloc _) (heap_new2 _ _ _)).mono ?_); rintro e w1 ⟨va, vc, rfl, hO, hg1⟩)
  go_ret
  exact .of hO ((hgB.alloc _).size) ((hgB.alloc _).trans hg1)
set_option maxRecDepth 100000 in
set_option maxHeartbeats 2000000 in
theorem edit_any {w : World} (k c : Int) (sh ct : Bool) (m : BitVec 32) (lv : Int) (ei : Bool) (p : Nat) (hT : tabT w) (hk : 9 ≤ k ∧ k ≤ 14) : Calls Tryd.prog 21 #[.agg (cBoard k c sh ct m lv ei p)] w (EncTo w (editK k lv ei)) := by
  unfold cBoard
  have hgB := (Gr.refl w).alloc (.cells #[.int .i64 k, .int .u8 c, .bool sh, .bool ct, .int .u32 (m.toNat : Int), .int .i64 lv, .bool ei, .pointer (some ⟨p, 0, none⟩)] 53)
  obtain ⟨hk1, hk2⟩ := hk
  have hn := numbered_any (w := w.alloc (.cells #[.int .i64 k, .int .u8 c, .bool sh, .bool ct, .int .u32 (m.toNat : Int), .int .i64 lv, .bool ei, .pointer (some ⟨p, 0, none⟩)] 53)) k c sh ct m lv ei p (k - 8) (hT.gr hgB)
  unfold cBoard at hn
  by_cases h : lv < 2
  · have e : editK k lv ei = [] := if_pos h
    rw [e]
    clear e hn
    go_enter Tryd.func21, Tryd.ntmps21
    go_wp2_with fail
    go_ret
    exact ⟨none, 0, rfl, ⟨HasRow.nil _ _, fresh_nil⟩, hgB⟩
  · have e : editK k lv ei = csiR [126] [k - 8] ei := if_neg h
    rw [e]
    clear e
    have e9 : k - 9 + 1 = k - 8 := by omega
    go_enter Tryd.func21, Tryd.ntmps21
    go_wp2_with (go_at_call 29; (with_reducible refine hn.mono ?_); rintro e w1 ⟨va, vc, rfl, hO, hg1⟩)
    go_ret
    exact ⟨va, vc, rfl, ⟨hO.1, hO.2.mono hgB.size⟩, hgB.trans hg1⟩
end Go.Proofs.YtnnhaenmoifplaaDoor
