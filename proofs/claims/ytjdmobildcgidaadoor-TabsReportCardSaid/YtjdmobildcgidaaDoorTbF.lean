/-
  Numbers of a slice, from the last to the first: what slices.Backward hands on.
-/
import Derived.Test.YtjdmobildcgidaaDoorTbE
import Derived.RangeFuncBox
import Derived.RangeFuncLeaves
import Derived.Shelf.Abstract
import Derived.WalkKit
import Derived.OwnWalkIn
import Derived.TacticsInMore
import Derived.LoopNIn
import Derived.LoopIn
namespace Go.Proofs.YtjdmobildcgidaaDoor
set_option linter.unusedSimpArgs false
set_option linter.unusedVariables false
open Go.RowKit Go.Shelf
set_option linter.unusedVariables false
attribute [local go_sem] Oper.semAt_some

/-- What has come when k rounds are over. -/
def upto {α : Type} (f : Nat → α) (k : Nat) : List α := (List.range k).map f
theorem upto_succ {α : Type} (f : Nat → α) (k : Nat) : upto f (k + 1) = upto f k ++ [f k] := by simp [upto, List.range_succ]
theorem upto_length {α : Type} (f : Nat → α) (k : Nat) : (upto f k).length = k := by simp [upto]
/-- The k-th from behind, with its place. -/
def bw (zs : List Int) (k : Nat) : Nat × Int := (zs.length - 1 - k, zs[zs.length - 1 - k]?.getD 0)
/-- What a round that goes on keeps: some blocks. -/
def Kb (bs : List Nat) (W W' : World) : Prop := W.heap.size ≤ W'.heap.size ∧ ∀ k ∈ bs, W'.heap[k]? = W.heap[k]?
theorem Kb.refl (bs : List Nat) (W : World) : Kb bs W W := ⟨Nat.le_refl _, fun _ _ => rfl⟩
theorem Kb.trans {bs : List Nat} {A B C : World} (h : Kb bs A B) (k : Kb bs B C) : Kb bs A C := ⟨Nat.le_trans h.1 k.1, fun i hi => (k.2 i hi).trans (h.2 i hi)⟩
theorem Kb.cell {bs : List Nat} {A B : World} (h : Kb bs A B) {b : Nat} (hb : b ∈ bs) (i : Nat) : B.cell? ⟨b, i, none⟩ = A.cell? ⟨b, i, none⟩ := by simp only [World.cell?, h.2 b hb]
theorem Kb.put {bs : List Nat} {w : World} (hbs : ∀ k ∈ bs, k < w.heap.size) (W : World) (l : Nat) (o o' : Obj) (hl : w.heap.size ≤ l) (h : W.heap[l]? = some o) (_ : o.isCells = false) (_ : o.isWalk = false) : Kb bs W (W.putObj l o') := by
  have hg := grownBy_putObj' W l o'
  exact ⟨hg.size, fun k hk => by
    have := hbs k hk
    have hlt := (Array.getElem?_eq_some_iff.1 h).1
    exact hg.block k (by omega) (fun e => by injection e; omega)⟩

set_option maxRecDepth 100000 in
set_option maxHeartbeats 2000000 in
theorem backward1_in (F : Fence) (n : Nat) (h8 : F.fn 41) (hro : F.round = none) (hn : 1 ≤ n) (l Bs b off cap : Nat) (zs : List Int) (bs : List Nat) (hreach : zs.length ≤ 100000000) (hb : b ∈ bs) (hB : Bs ∈ bs) (J Jx : List (Nat × Int) → World → Prop)
    (hY : ∀ pre x W, J pre W → pre.length < zs.length → YieldAt F (n - 1) Tryd.prog l #[.int .i64 (x.1 : Int), .int .i64 x.2] W fun e W' =>
      (e = .returned (.bool true) ∧ J (pre ++ [x]) W' ∧ Kb bs W W') ∨ (e = .returned (.bool false) ∧ Jx (pre ++ [x]) W'))
    (W : World) (hBs : W.cell? ⟨Bs, 0, none⟩ = some (.slice (some ⟨b, off, none⟩) zs.length cap)) (hc : ∀ j, j < zs.length → W.cell? ⟨b, off + j, none⟩ = some (.int .i64 (zs[j]?.getD 0))) (h0 : J [] W) :
    CallsIn F n Tryd.prog 41 #[.func (.yield l) #[] #[], .pointer (some ⟨Bs, 0, none⟩)] W fun e W' => (∃ v, e = .returned v) ∧
      ((∃ ys, ys = upto (bw zs) zs.length ∧ J ys W') ∨ (∃ pre, (∃ k, k ≤ zs.length ∧ pre = upto (bw zs) k) ∧ Jx pre W')) := by
  refine callsIn_of_wp Tryd.func41 rfl h8 ?_ hro
  simp only [Tryd.ntmps41, List.size_toArray, List.length_cons, List.length_nil, Nat.reduceAdd, Nat.reduceSub, Array.replicate_succ, Array.replicate_zero, List.push_toArray, List.append_toArray, List.nil_append, List.cons_append]
  gi_wp2
  gi_loopw [3] (fun i wr => ∃ k : Nat, k ≤ zs.length ∧ i = .int .i64 ((zs.length : Int) - 1 - (k : Int)) ∧ J (upto (bw zs) k) wr ∧ Kb bs W wr)
    (fun i _ => ((intOf i) + 1).toNat)
  case atStart => exact ⟨0, Nat.zero_le _, by simp, h0, Kb.refl _ _⟩
  case round =>
    obtain ⟨k, hk, rfl, hJs, hnx⟩ := hrel
    have hBx := (hnx.cell hB 0).trans hBs
    by_cases hlt : k < zs.length
    · obtain ⟨j, hj⟩ : ∃ j, j = zs.length - 1 - k := ⟨_, rfl⟩
      have hji : (zs.length : Int) - 1 - (k : Int) = (j : Int) := by omega
      have hjl : j < zs.length := by omega
      have hcx := (hnx.cell hb (off + j)).trans (hc j hjl)
      obtain ⟨x, hx⟩ : ∃ x, x = zs[j]?.getD 0 := ⟨_, rfl⟩
      have hbw : bw zs k = (j, x) := by unfold bw; rw [hx, hj]
      rw [← hx] at hcx
      obtain ⟨fn, tmps, assign, body, hy, hR⟩ := hY _ (j, x) wr hJs (by rw [upto_length]; exact hlt)
      dsimp only at hy
      rw [hji]
      have hup := upto_succ (bw zs) k
      rw [hbw] at hup
      have hjb : (j : Int) < 100000000 := by omega
      have hjc : (j : Int) < (zs.length : Int) := by omega
      have HJ := Lib.hid hj; have HX := Lib.hid hx; have HJI := Lib.hid hji; have HUP := Lib.hid hup
      clear hj hx hji hbw hup
      gi_wp2
      refine hR.mono ?_
      rintro e W3 (⟨rfl, hJ3, hk3⟩ | ⟨rfl, hJx3⟩)
      · gi_wp2
        go_roundw
        case rel => exact ⟨k + 1, by omega, congrArg (Value.int .i64) (by have := HJI.out; omega), by rw [HUP.out]; exact hJ3, hnx.trans hk3⟩
        case measure => simp [intOf]
      · gi_wp2
        refine bodyPost_ret (results_none rfl _ _ _) rfl ?_
        exact ⟨⟨_, rfl⟩, .inr ⟨_, ⟨k + 1, by omega, HUP.out.symm⟩, hJx3⟩⟩
    · obtain rfl : k = zs.length := by omega
      have hneg : (zs.length : Int) - 1 - (zs.length : Int) = -1 := by omega
      rw [hneg]
      clear hneg
      gi_wp2
      go_end0
      exact ⟨⟨_, rfl⟩, .inl ⟨_, rfl, hJs⟩⟩

set_option maxRecDepth 100000 in
set_option maxHeartbeats 1000000 in
/-- .. at the nil slice: no round. -/
theorem backward1_nil_in (F : Fence) (n : Nat) (h8 : F.fn 41) (hro : F.round = none) (l Bs : Nat) (J : List (Nat × Int) → World → Prop) (W : World) (hBs : W.cell? ⟨Bs, 0, none⟩ = some (.slice none 0 0)) (h0 : J [] W) :
    CallsIn F n Tryd.prog 41 #[.func (.yield l) #[] #[], .pointer (some ⟨Bs, 0, none⟩)] W fun e W' => (∃ v, e = .returned v) ∧ J [] W' := by
  refine callsIn_of_wp Tryd.func41 rfl h8 ?_ hro
  simp only [Tryd.ntmps41, List.size_toArray, List.length_cons, List.length_nil, Nat.reduceAdd, Nat.reduceSub, Array.replicate_succ, Array.replicate_zero, List.push_toArray, List.append_toArray, List.nil_append, List.cons_append]
  gi_wp2
  gi_loopw [3] (fun i wr => i = .int .i64 (-1) ∧ J [] wr) (fun _ _ => 0)
  case atStart => exact ⟨rfl, h0⟩
  case round =>
    obtain ⟨rfl, hJs⟩ := hrel
    gi_wp2
    go_end0
    exact ⟨⟨_, rfl⟩, hJs⟩

set_option maxHeartbeats 1000000 in
/-- slices.Backward: the slice value is boxed; the function value captures the box. -/
theorem backward_in (F : Fence) (n : Nat) (h6 : F.fn 33) (hro : F.round = none) (a : Option Addr) (len cap : Nat) (w : World) :
    CallsIn F n Tryd.prog 33 #[.slice a len cap] w fun e w' => e = .returned (.func (.func 41) #[] #[.pointer (some ⟨w.heap.size, 0, none⟩)]) ∧ w' = w.alloc (.cells #[.slice a len cap] 36) := by
  refine callsIn_of_wp Tryd.func33 rfl h6 ?_ hro
  simp only [Tryd.ntmps33, List.size_toArray, List.length_cons, List.length_nil, Nat.reduceAdd, Nat.reduceSub, Array.replicate_succ, Array.replicate_zero, List.push_toArray, List.append_toArray, List.nil_append, List.cons_append]
  gi_wp2
  go_ret
  exact ⟨rfl, rfl⟩

/-- A slice of numbers of a block. -/
def IntsV (W : World) (b : Nat) (sv : Value) (zs : List Int) : Prop :=
  (sv = .slice none 0 0 ∧ zs = []) ∨ ∃ off cap, sv = .slice (some ⟨b, off, none⟩) zs.length cap ∧ b < W.heap.size ∧ ∀ j, j < zs.length → W.cell? ⟨b, off + j, none⟩ = some (.int .i64 (zs[j]?.getD 0))
/-- slices.Backward of numbers hands back a value that goes from the last to the first, or stops. -/
theorem backward_stops (F : Fence) (n : Nat) (h8 : F.fn 41) (hro : F.round = none) (hn : 1 ≤ n) (Bs b : Nat) (sv : Value) (zs : List Int) (hreach : zs.length ≤ 100000000) (w : World) (hBs : Bs < w.heap.size)
    (hc : w.cell? ⟨Bs, 0, none⟩ = some sv) (hI : IntsV w b sv zs) :
    SeqStopsK F n Tryd.prog 41 #[.pointer (some ⟨Bs, 0, none⟩)] (fun x : Nat × Int => #[Value.int .i64 (x.1 : Int), Value.int .i64 x.2]) (Kb [b, Bs]) (fun ys => ys = upto (bw zs) zs.length)
      (fun pre => ∃ k, k ≤ zs.length ∧ pre = upto (bw zs) k) zs.length w := fun l J Jx W hW _ _ hY h0 => by
  have hc' := (hW.cell (p := ⟨Bs, 0, none⟩) hBs).trans hc
  rcases hI with ⟨rfl, rfl⟩ | ⟨off, cap, rfl, hb, hcs⟩
  · exact (backward1_nil_in F n h8 hro l Bs J W hc' h0).mono fun e W' ⟨he, hj⟩ => ⟨he, .inl ⟨_, rfl, hj⟩⟩
  · exact backward1_in F n h8 hro hn l Bs b off cap zs [b, Bs] hreach (by simp) (by simp) J Jx hY W hc' (fun j hj => (hW.cell (p := ⟨b, off + j, none⟩) hb).trans (hcs j hj)) h0
end Go.Proofs.YtjdmobildcgidaaDoor
