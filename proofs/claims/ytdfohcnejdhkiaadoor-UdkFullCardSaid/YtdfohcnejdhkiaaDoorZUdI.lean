/-
  Keys with texts: the law UdkFull, walked.
-/
import Derived.Deep.OwnRows
import Derived.Test.YtdfohcnejdhkiaaDoorZUdH
namespace Go.Proofs.YtdfohcnejdhkiaaDoor
set_option linter.unusedSimpArgs false
set_option linter.unusedVariables false
open Go.RowKit
set_option linter.unusedVariables false

theorem make_bytes (N : Nat) (hN : N ≤ 1000000) : ∀ w : World, (Instr.makeSlice 23 (.int .i64 (N : Int)) (.int .i64 (N : Int))).run Tryd.prog w = .ok (.slice (some ⟨w.heap.size, 0, none⟩) N N) (w.alloc (.cells (Lib.byteCells (List.replicate N 0)).toArray 5)) := by
  intro w
  obtain ⟨i0, hi0, hz0, hz1, hz2⟩ := info_parts mcI
  have hr := run_make (P := Tryd.prog) w 23 5 i0 (.int .u8 0) mcT hi0 hz0 .i64 .i64 N N (by omega) (by omega) (by rw [hz2]; omega) (by omega)
  rw [hr, hz1]
  simp only [Int.toNat_natCast, Nat.mul_one]
  have : madeCells (Value.int .u8 0).cells N = (Lib.byteCells (List.replicate N 0)).toArray := by
    apply Array.ext'
    have := toList_madeCells_one (Value.int .u8 0) N
    simp only [Lib.byteCells, List.map_replicate]
    exact this
  rw [this]
/-- So many fours. -/
def fours (n : Nat) : List UInt8 := List.replicate (2 * n) 52
def fourAt (N k : Nat) : List UInt8 := List.replicate k 52 ++ List.replicate (N - k) 0
theorem fourAt_set {N k : Nat} (h : k < N) : (Lib.byteCells (fourAt N k)).set k (.int .u8 52) = Lib.byteCells (fourAt N (k + 1)) := by
  unfold fourAt Lib.byteCells
  rw [show N - k = (N - (k + 1)) + 1 by omega, List.replicate_succ, List.map_append, List.map_append, List.set_append_right _ _ (by simp)]
  simp only [List.map_replicate, List.length_replicate, Nat.sub_self, List.map_cons, List.set_cons_zero]
  rw [List.replicate_succ' (n := k), List.append_assoc]
  rfl
theorem fourAt_len {N k : Nat} (h : k ≤ N) : (fourAt N k).length = N := by unfold fourAt; simp; omega
set_option maxHeartbeats 1000000 in
theorem hex4_any (n : Nat) (w : World) (hn : n ≤ 1000) : Calls Tryd.prog 7 #[.int .i64 n] w fun e w' => e = .returned (.string (bsl (fours n))) ∧ Gr w w' := by
  have hmk := make_bytes (2 * n) (by omega)
  have e0 : ((2 * n : Nat) : Int) = 2 * (n : Int) := by omega
  have e1 : IntKind.i64.wrap (2 * (n : Int)) = 2 * (n : Int) := IntWalk.i64_in _ (by omega)
  obtain ⟨N, hN⟩ : ∃ N, N = 2 * n := ⟨_, rfl⟩
  rw [← hN] at hmk e0
  have e2 : IntKind.i64.wrap (2 * (n : Int)) = (N : Int) := by rw [e1, ← e0]
  have hNl : N ≤ 2000 := by omega
  have HN := Lib.hid hN
  clear e0 e1 hN hn
  go_enter Tryd.func7, Tryd.ntmps7
  go_wp2_with fail
  obtain ⟨g, hg⟩ : ∃ g, g = w.heap.size := ⟨_, rfl⟩
  have hb0 := heap_alloc_new w (.cells (Lib.byteCells (List.replicate N 0)).toArray 5)
  have hg0 := (Gr.refl w).alloc (.cells (Lib.byteCells (List.replicate N 0)).toArray 5)
  rw [show List.replicate N 0 = fourAt N 0 by simp [fourAt]] at hb0 hg0 ⊢
  obtain ⟨w1, hw1⟩ : ∃ w1, w1 = w.alloc (.cells (Lib.byteCells (fourAt N 0)).toArray 5) := ⟨_, rfl⟩
  rw [← hw1, ← hg] at hb0
  rw [← hw1] at hg0
  rw [← hw1, ← hg]
  have HG := Lib.hid hg
  clear hw1 hg hmk
  go_loopw [10] (fun iv wr => ∃ k : Nat, iv = .int .i64 (k : Int) ∧ k ≤ N ∧ wr.heap[g]? = some (.cells (Lib.byteCells (fourAt N k)).toArray 5 (0, 0)) ∧ Gr w wr) (fun iv _ => N - (intOf iv).toNat)
  case atStart => exact ⟨0, rfl, Nat.zero_le _, hb0, hg0⟩
  case round =>
    clear hb0 hg0
    obtain ⟨k, rfl, hk, hb, hgr⟩ := hrel
    by_cases hlt : k < N
    · have hki : (k : Int) < (N : Int) := by omega
      have hk0 : (0 : Int) ≤ (k : Int) := by omega
      have hx : k < (Lib.byteCells (fourAt N k)).length := by simp [Lib.byteCells, fourAt_len hk, hlt]
      have hc : wr.cell? ⟨g, k, none⟩ = some ((Lib.byteCells (fourAt N k))[k]'hx) := cell_of_row hb k _ (by simp [List.getElem?_eq_getElem hx])
      obtain ⟨u, hu⟩ : ∃ u, u = (Lib.byteCells (fourAt N k))[k]'hx := ⟨_, rfl⟩
      rw [← hu] at hc
      have hf : wr.frozen? ⟨g, k, none⟩ = false := by simp [World.frozen?, hb]
      have hb2 := blk_set hb k (.int .u8 52)
      rw [List.setIfInBounds_toArray, fourAt_set hlt] at hb2
      have hg2 : Gr w (wr.setCell ⟨g, k, none⟩ (.int .u8 52)) := hgr.upd (Upd.of_setCell _ _ _ _) (by simpa using Nat.le_of_eq HG.out.symm)
      have HB2 := Lib.hid hb2
      clear hb hb2 hu hx
      go_wp2_with fail
      go_roundw
      case rel => exact ⟨k + 1, by go_num, by omega, HB2.out, hg2⟩
      case measure => simp [intOf]; omega
    · obtain rfl : k = N := by omega
      have hki : ¬ (k : Int) < (k : Int) := by omega
      have hown : wr.ownsRow 0 5 1 (.slice (some ⟨g, 0, none⟩) k k) k (Lib.byteCells (fourAt k k)) :=
        ⟨by simp [Lib.byteCells, fourAt_len (Nat.le_refl k)], .inr ⟨g, k, _, rfl, Nat.zero_le _, hb, Nat.le_refl _, by unfold maxLen; omega, by simp [Lib.byteCells, fourAt_len (Nat.le_refl k)], List.take_of_length_le (by simp [Lib.byteCells, fourAt_len (Nat.le_refl k)])⟩⟩
      have hcv := conv_own hown
      rw [show fourAt k k = fours n by unfold fourAt fours; rw [Nat.sub_self, HN.out]; simp] at hcv
      clear hb hown
      go_wp2_with fail
      go_ret
      exact ⟨rfl, hgr⟩
def d4 (n : Nat) : List UInt8 := List.replicate n 68
theorem hexR_fours (n : Nat) : hexR (fours n) = some (d4 n) := by
  induction n with
  | zero => rfl
  | succ n ih =>
    have e : fours (n + 1) = 52 :: 52 :: fours n := by unfold fours; rw [show 2 * (n + 1) = (2 * n + 1) + 1 by omega, List.replicate_succ, List.replicate_succ]
    have hd : digR 52 = some 4 := by decide
    rw [e]
    unfold hexR
    rw [hd]
    simp only [ih, Option.map_some]
    rfl
theorem def_four (L : Txs) (a b : UInt8) (n : Nat) (ha : a ≠ 47) (hb : b ≠ 47) (hd : [a, b].all isDg = true) (hk : isK (valK 68 [a, b]) = true) : defR L (a :: b :: 47 :: fours n) = some (L.set (valK 68 [a, b] - 17) (d4 n)) := by
  unfold defR
  rw [if_neg (by simp)]
  have hc : cutS (a :: b :: 47 :: fours n) = some ([a, b], fours n) := cutS_app [a, b] (fours n) (by simp [ha, hb])
  unfold defP
  rw [hc]
  simp only [hd, hk, and_self, if_true, hexR_fours, Option.map_some]
theorem fours_ne (n : Nat) : ∀ c ∈ fours n, c ≠ 59 := by
  intro c hc
  have := (List.mem_replicate.1 hc).2
  subst this; decide
theorem with_four (L : Txs) (a b : UInt8) (n : Nat) (ha : a ≠ 47) (hb : b ≠ 47) (ha' : a ≠ 59) (hb' : b ≠ 59) (hd : [a, b].all isDg = true) (hk : isK (valK 68 [a, b]) = true) : withR L (sps 59 (a :: b :: 47 :: fours n)) = some (L.set (valK 68 [a, b] - 17) (d4 n)) := by
  rw [sps_none (by
    intro c hc
    simp only [List.mem_cons] at hc
    rcases hc with rfl | rfl | rfl | hc
    · exact ha'
    · exact hb'
    · decide
    · exact fours_ne n c hc)]
  unfold withR
  rw [def_four L a b n ha hb hd hk]
  rfl
def l1 (n : Nat) : Txs := noL.set 0 (d4 n)
theorem used_l1 (n : Nat) : usedL (l1 n) = n := by simp [l1, noL, usedL, d4, List.replicate]
theorem used_l2 (n m : Nat) : usedL (((l1 n).set 1 (d4 m)).set 2 (d4 1)) = n + m + 1 := by simp [l1, noL, usedL, d4, List.replicate]; omega
theorem used_l3 (m : Nat) : usedL (noL.set 3 (d4 m)) = m := by simp [noL, usedL, d4, List.replicate]
theorem dfn1 (n : Nat) : dfnR noL false false false (49 :: 55 :: 47 :: fours n) = if 804 < n then (l1 0, false, 5) else (l1 n, false, 0) := by
  unfold dfnR
  have h : withR (if false = true then List.replicate 18 [] else noL) (sps 59 (49 :: 55 :: 47 :: fours n)) = some (l1 n) := with_four noL 49 55 n (by decide) (by decide) (by decide) (by decide) (by decide) (by decide)
  rw [h]
  simp only [used_l1]
  by_cases hn : 804 < n
  · rw [if_pos hn, if_pos hn]; rfl
  · rw [if_neg hn, if_neg hn]; rfl
theorem dfn2 (n m : Nat) : dfnR (l1 n) false false false (49 :: 56 :: 47 :: (fours m ++ 59 :: 49 :: 57 :: 47 :: fours 1)) = if 804 < n + m + 1 then (l1 n, false, 5) else (((l1 n).set 1 (d4 m)).set 2 (d4 1), false, 0) := by
  unfold dfnR
  have h : withR (if false = true then List.replicate 18 [] else l1 n) (sps 59 (49 :: 56 :: 47 :: (fours m ++ 59 :: 49 :: 57 :: 47 :: fours 1))) = some (((l1 n).set 1 (d4 m)).set 2 (d4 1)) := by
    have hs : sps 59 ((49 :: 56 :: 47 :: fours m) ++ 59 :: 49 :: 57 :: 47 :: fours 1) = (49 :: 56 :: 47 :: fours m) :: sps 59 (49 :: 57 :: 47 :: fours 1) := sps_cut (by
      intro c hc
      simp only [List.mem_cons] at hc
      rcases hc with rfl | rfl | rfl | hc
      · decide
      · decide
      · decide
      · exact fours_ne m c hc)
    rw [show 49 :: 56 :: 47 :: (fours m ++ 59 :: 49 :: 57 :: 47 :: fours 1) = (49 :: 56 :: 47 :: fours m) ++ 59 :: 49 :: 57 :: 47 :: fours 1 from rfl, hs]
    show withR (l1 n) _ = _
    unfold withR
    rw [def_four (l1 n) 49 56 m (by decide) (by decide) (by decide) (by decide)]
    exact with_four _ 49 57 1 (by decide) (by decide) (by decide) (by decide) (by decide) (by decide)
  rw [h]
  simp only [used_l2]
  by_cases hn : 804 < n + m + 1
  · rw [if_pos hn, if_pos hn]
  · rw [if_neg hn, if_neg hn]; rfl
theorem dfn3 (L : Txs) (m : Nat) : dfnR L false true false (50 :: 48 :: 47 :: fours m) = if 804 < m then (L, false, 5) else (noL.set 3 (d4 m), false, 0) := by
  unfold dfnR
  have h : withR (if true = true then List.replicate 18 [] else L) (sps 59 (50 :: 48 :: 47 :: fours m)) = some (noL.set 3 (d4 m)) := with_four noL 50 48 m (by decide) (by decide) (by decide) (by decide) (by decide) (by decide)
  rw [h]
  simp only [used_l3]
  by_cases hn : 804 < m
  · rw [if_pos hn, if_pos hn]
  · rw [if_neg hn, if_neg hn]; rfl
theorem KAt.fresh (w : World) : KAt (w.alloc (.cells #[.string ⟨#[]⟩, .string ⟨#[]⟩, .string ⟨#[]⟩, .string ⟨#[]⟩, .string ⟨#[]⟩, .string ⟨#[]⟩, .string ⟨#[]⟩, .string ⟨#[]⟩, .string ⟨#[]⟩, .string ⟨#[]⟩, .string ⟨#[]⟩, .string ⟨#[]⟩, .string ⟨#[]⟩, .string ⟨#[]⟩, .string ⟨#[]⟩, .string ⟨#[]⟩, .string ⟨#[]⟩, .string ⟨#[]⟩, .bool false] 27)) w.heap.size noL false := ⟨heap_alloc_new w _, rfl⟩
def lA : Txs := (noL.set 0 [65]).set 1 [66, 67]
theorem dfnA : dfnR noL false false true [49, 55, 47, 52, 49, 59, 49, 56, 47, 52, 50, 52, 51] = (lA, true, 0) := by decide +kernel
theorem dfnB : dfnR lA true false false [49, 55, 47, 52, 52] = (lA, true, 6) := by decide +kernel
theorem dfnC : dfnR lA true false false [50, 50, 47, 52, 52] = (lA, true, 3) := by decide +kernel
set_option maxRecDepth 100000 in
set_option maxHeartbeats 1000000 in
theorem awake_any (w : World) (hM : MaxOk w) : Calls Tryd.prog 6 #[] w fun e w' => e = .returned (.bool true) ∧ Gr w w' := by
  have hg0 := (Gr.refl w).alloc (.cells #[.string ⟨#[]⟩, .string ⟨#[]⟩, .string ⟨#[]⟩, .string ⟨#[]⟩, .string ⟨#[]⟩, .string ⟨#[]⟩, .string ⟨#[]⟩, .string ⟨#[]⟩, .string ⟨#[]⟩, .string ⟨#[]⟩, .string ⟨#[]⟩, .string ⟨#[]⟩, .string ⟨#[]⟩, .string ⟨#[]⟩, .string ⟨#[]⟩, .string ⟨#[]⟩, .string ⟨#[]⟩, .string ⟨#[]⟩, .bool false] 27)
  have hK0 := KAt.fresh w
  have hu0 : usedL noL ≤ 1000000 := by decide
  have huA : usedL lA ≤ 1000000 := by decide
  have hd1 := define_any false true [49, 55, 47, 52, 49, 59, 49, 56, 47, 52, 50, 52, 51] hK0 (by decide) (hM.gr hg0) hu0
  rw [dfnA, show bsl [49, 55, 47, 52, 49, 59, 49, 56, 47, 52, 50, 52, 51] = ⟨#[49, 55, 47, 52, 49, 59, 49, 56, 47, 52, 50, 52, 51]⟩ from rfl] at hd1
  have hd2 := fun (W : World) (h : KAt W w.heap.size lA true) (hg : Gr w W) => define_any false false [49, 55, 47, 52, 52] h (by decide) (hM.gr hg) huA
  have hd3 := fun (W : World) (h : KAt W w.heap.size lA true) (hg : Gr w W) => define_any false false [50, 50, 47, 52, 52] h (by decide) (hM.gr hg) huA
  rw [dfnB, show bsl [49, 55, 47, 52, 52] = ⟨#[49, 55, 47, 52, 52]⟩ from rfl] at hd2
  rw [dfnC, show bsl [50, 50, 47, 52, 52] = ⟨#[50, 50, 47, 52, 52]⟩ from rfl] at hd3
  have hget := fun (W : World) (h : KAt W w.heap.size lA true) => get_any 18 h
  rw [show getZ lA 18 = [66, 67] by decide, show bsl [66, 67] = ⟨#[66, 67]⟩ from rfl, show (!([66, 67] : List UInt8).isEmpty) = true from rfl] at hget
  clear hK0
  go_enter Tryd.func6, Tryd.ntmps6
  go_wp2_with (first
    | (go_at_call 8; (with_reducible refine hd1.mono ?_); rintro e w1 ⟨rfl, hK1, hu1⟩; have hg1 : Gr w w1 := hg0.upd hu1 (by simp))
    | (go_at_call 15; (with_reducible refine (hget _ hK1).mono ?_); rintro e w2 ⟨rfl, rfl⟩)
    | (go_at_call 20; (with_reducible refine (locked_any hK1).mono ?_); rintro e w3 ⟨rfl, rfl⟩)
    | (go_at_call 8; (with_reducible refine (hd2 _ hK1 hg1).mono ?_); rintro e w4 ⟨rfl, hK4, hu4⟩; have hg4 : Gr w w4 := hg1.upd hu4 (by simp))
    | (go_at_call 8; (with_reducible refine (hd3 _ hK4 hg4).mono ?_); rintro e w5 ⟨rfl, hK5, hu5⟩; have hg5 : Gr w w5 := hg4.upd hu5 (by simp)))
  go_ret
  exact ⟨rfl, hg5⟩
end Go.Proofs.YtdfohcnejdhkiaaDoor
