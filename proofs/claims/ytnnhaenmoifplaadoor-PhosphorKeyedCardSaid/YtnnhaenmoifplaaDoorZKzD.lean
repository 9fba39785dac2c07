/-
  What the keyboard sends: the table of functions, walked (gen_kyd.py).
-/
import Derived.Laws.EntriesVeiled
import Derived.LoopN
import Derived.Test.YtnnhaenmoifplaaDoorZKzC
namespace Go.Proofs.YtnnhaenmoifplaaDoor
set_option linter.unusedSimpArgs false
set_option linter.unusedVariables false
open Go.RowKit
set_option linter.unusedVariables false

def fnV (f : FuncId) : Value := .func (.func f) #[] #[]
def tabA : Array Value := #[fnV 13, fnV 14, fnV 15, fnV 16, fnV 17, fnV 20, fnV 20, fnV 20, fnV 20, fnV 21, fnV 21, fnV 21, fnV 21, fnV 21, fnV 21, fnV 18, fnV 19]
def tab0 : Array Value := #[fnV 13, fnV 14, fnV 15, fnV 16, fnV 17, .nilFunc, .nilFunc, .nilFunc, .nilFunc, .nilFunc, .nilFunc, .nilFunc, .nilFunc, .nilFunc, .nilFunc, fnV 18, fnV 19]
def zeroV : Array Value := #[.nilFunc, .nilFunc, .nilFunc, .nilFunc, .nilFunc, .nilFunc, .nilFunc, .nilFunc, .nilFunc, .nilFunc, .nilFunc, .nilFunc, .nilFunc, .nilFunc, .nilFunc, .nilFunc, .nilFunc]
def tabB0 : Array Value := #[fnV 13, fnV 14, fnV 15, fnV 16, fnV 17, .nilFunc, .nilFunc, .nilFunc, .nilFunc, .nilFunc, .nilFunc, .nilFunc, .nilFunc, .nilFunc, .nilFunc, fnV 18, fnV 19]
def tabB1 : Array Value := #[fnV 13, fnV 14, fnV 15, fnV 16, fnV 17, fnV 20, .nilFunc, .nilFunc, .nilFunc, .nilFunc, .nilFunc, .nilFunc, .nilFunc, .nilFunc, .nilFunc, fnV 18, fnV 19]
def tabB2 : Array Value := #[fnV 13, fnV 14, fnV 15, fnV 16, fnV 17, fnV 20, fnV 20, .nilFunc, .nilFunc, .nilFunc, .nilFunc, .nilFunc, .nilFunc, .nilFunc, .nilFunc, fnV 18, fnV 19]
def tabB3 : Array Value := #[fnV 13, fnV 14, fnV 15, fnV 16, fnV 17, fnV 20, fnV 20, fnV 20, .nilFunc, .nilFunc, .nilFunc, .nilFunc, .nilFunc, .nilFunc, .nilFunc, fnV 18, fnV 19]
def tabB4 : Array Value := #[fnV 13, fnV 14, fnV 15, fnV 16, fnV 17, fnV 20, fnV 20, fnV 20, fnV 20, .nilFunc, .nilFunc, .nilFunc, .nilFunc, .nilFunc, .nilFunc, fnV 18, fnV 19]
def tabC0 : Array Value := #[fnV 13, fnV 14, fnV 15, fnV 16, fnV 17, fnV 20, fnV 20, fnV 20, fnV 20, .nilFunc, .nilFunc, .nilFunc, .nilFunc, .nilFunc, .nilFunc, fnV 18, fnV 19]
def tabC1 : Array Value := #[fnV 13, fnV 14, fnV 15, fnV 16, fnV 17, fnV 20, fnV 20, fnV 20, fnV 20, fnV 21, .nilFunc, .nilFunc, .nilFunc, .nilFunc, .nilFunc, fnV 18, fnV 19]
def tabC2 : Array Value := #[fnV 13, fnV 14, fnV 15, fnV 16, fnV 17, fnV 20, fnV 20, fnV 20, fnV 20, fnV 21, fnV 21, .nilFunc, .nilFunc, .nilFunc, .nilFunc, fnV 18, fnV 19]
def tabC3 : Array Value := #[fnV 13, fnV 14, fnV 15, fnV 16, fnV 17, fnV 20, fnV 20, fnV 20, fnV 20, fnV 21, fnV 21, fnV 21, .nilFunc, .nilFunc, .nilFunc, fnV 18, fnV 19]
def tabC4 : Array Value := #[fnV 13, fnV 14, fnV 15, fnV 16, fnV 17, fnV 20, fnV 20, fnV 20, fnV 20, fnV 21, fnV 21, fnV 21, fnV 21, .nilFunc, .nilFunc, fnV 18, fnV 19]
def tabC5 : Array Value := #[fnV 13, fnV 14, fnV 15, fnV 16, fnV 17, fnV 20, fnV 20, fnV 20, fnV 20, fnV 21, fnV 21, fnV 21, fnV 21, fnV 21, .nilFunc, fnV 18, fnV 19]
def tabC6 : Array Value := #[fnV 13, fnV 14, fnV 15, fnV 16, fnV 17, fnV 20, fnV 20, fnV 20, fnV 20, fnV 21, fnV 21, fnV 21, fnV 21, fnV 21, fnV 21, fnV 18, fnV 19]
/-- The table, as it grows. -/
structure TabAt (w : World) (g : Nat) (cs : Array Value) (W : World) : Prop where
  g1 : W.heap[g + 1]? = some (.cells cs 56 (0, 0))
  g0 : W.heap[g]? = some (.cells zeroV 56 (0, 0))
  gr : Gr w W
  lt : w.heap.size ≤ g
theorem TabAt.set {w W : World} {g : Nat} {cs cs' : Array Value} (h : TabAt w g cs W) (i : Nat) (u : Value) (hc : cs.setIfInBounds i u = cs') : TabAt w g cs' (W.setCell ⟨g + 1, i, none⟩ u) :=
  ⟨hc ▸ blk_set h.g1 i u, blk_far h.g0 (by simp) u, h.gr.setCell (by have := h.lt; simp; omega) u, h.lt⟩
def tabR1 (w : World) (g : Nat) (iv : Value) (wr : World) : Prop :=
  (iv = .int .i64 5 ∧ TabAt w g tabB0 wr) ∨
  (iv = .int .i64 6 ∧ TabAt w g tabB1 wr) ∨
  (iv = .int .i64 7 ∧ TabAt w g tabB2 wr) ∨
  (iv = .int .i64 8 ∧ TabAt w g tabB3 wr) ∨
  (iv = .int .i64 9 ∧ TabAt w g tabB4 wr)
def tabR2 (w : World) (g : Nat) (iv : Value) (wr : World) : Prop :=
  (iv = .int .i64 9 ∧ TabAt w g tabC0 wr) ∨
  (iv = .int .i64 10 ∧ TabAt w g tabC1 wr) ∨
  (iv = .int .i64 11 ∧ TabAt w g tabC2 wr) ∨
  (iv = .int .i64 12 ∧ TabAt w g tabC3 wr) ∨
  (iv = .int .i64 13 ∧ TabAt w g tabC4 wr) ∨
  (iv = .int .i64 14 ∧ TabAt w g tabC5 wr) ∨
  (iv = .int .i64 15 ∧ TabAt w g tabC6 wr)
set_option maxRecDepth 100000 in
set_option maxHeartbeats 4000000 in
theorem table_any (w : World) : Calls Tryd.prog 10 #[] w fun e w' => e = .returned (.agg tabA) ∧ Gr w w' := by
  have hz : ∀ w, (zeroValue 56).run Tryd.prog w = .ok (.agg zeroV) w := fun _ => by kernel_rfl
  obtain ⟨g, hg⟩ : ∃ g, g = w.heap.size := ⟨_, rfl⟩
  go_enter Tryd.func10, Tryd.ntmps10
  go_upto_region 2 with (first
    | (refine wpList_build_to rfl 56 _ rfl tab0 (by kernel_rfl) ?_)
    | (refine wpList_store_abs rfl 56 _ _ rfl (w.heap.size + 1) tab0 rfl rfl 56 _ (heap_new2 w _ _) (by kernel_rfl) (by kernel_rfl) (by kernel_rfl) ?_; intro w1 hb1 hbl1 hs1))
  have h0 : w1.heap[w.heap.size]? = some (.cells zeroV 56 (0, 0)) := by
    rw [hbl1.block _ (by omega)]
    exact ((Gr.refl _).alloc _).blk (heap_alloc_new w _)
  have hG1 : Gr w w1 := (((Gr.refl w).alloc _).alloc _).step (by omega) hbl1
  rw [← hg] at hb1 h0 ⊢
  have hT0 : TabAt w g tabB0 w1 := ⟨hb1, h0, hG1, by omega⟩
  clear hb1 h0 hG1 hbl1 hs1
  have HG := Lib.hid hg
  clear hg
  go_wp2_with fail
  go_loopw [2] (fun iv wr => tabR1 w g iv wr) (fun iv _ => 10 - (intOf iv).toNat)
  case atStart => exact .inl ⟨rfl, hT0⟩
  case round =>
    clear hT0
    rcases hrel with ⟨rfl, hT⟩ | ⟨rfl, hT⟩ | ⟨rfl, hT⟩ | ⟨rfl, hT⟩ | ⟨rfl, hT⟩
    · have hq : wr.cell? ⟨g + 1, 5, none⟩ = some .nilFunc := cell_of_row hT.g1 5 _ rfl
      have hfz : wr.frozen? ⟨g + 1, 5, none⟩ = false := by simp [World.frozen?, hT.g1]
      go_wp2_with fail
      go_roundw
      case rel => exact .inr (.inl ⟨rfl, hT.set 5 _ rfl⟩)
      case measure => simp [intOf]
    · have hq : wr.cell? ⟨g + 1, 6, none⟩ = some .nilFunc := cell_of_row hT.g1 6 _ rfl
      have hfz : wr.frozen? ⟨g + 1, 6, none⟩ = false := by simp [World.frozen?, hT.g1]
      go_wp2_with fail
      go_roundw
      case rel => exact .inr (.inr (.inl ⟨rfl, hT.set 6 _ rfl⟩))
      case measure => simp [intOf]
    · have hq : wr.cell? ⟨g + 1, 7, none⟩ = some .nilFunc := cell_of_row hT.g1 7 _ rfl
      have hfz : wr.frozen? ⟨g + 1, 7, none⟩ = false := by simp [World.frozen?, hT.g1]
      go_wp2_with fail
      go_roundw
      case rel => exact .inr (.inr (.inr (.inl ⟨rfl, hT.set 7 _ rfl⟩)))
      case measure => simp [intOf]
    · have hq : wr.cell? ⟨g + 1, 8, none⟩ = some .nilFunc := cell_of_row hT.g1 8 _ rfl
      have hfz : wr.frozen? ⟨g + 1, 8, none⟩ = false := by simp [World.frozen?, hT.g1]
      go_wp2_with fail
      go_roundw
      case rel => exact .inr (.inr (.inr (.inr (⟨rfl, hT.set 8 _ rfl⟩))))
      case measure => simp [intOf]
    · go_wp2_with fail
      have hT0 : TabAt w g tabC0 wr := hT
      clear hT
      go_loopw [3] (fun iv wr => tabR2 w g iv wr) (fun iv _ => 16 - (intOf iv).toNat)
      case atStart => exact .inl ⟨rfl, hT0⟩
      case round =>
        clear hT0
        rcases hrel with ⟨rfl, hT⟩ | ⟨rfl, hT⟩ | ⟨rfl, hT⟩ | ⟨rfl, hT⟩ | ⟨rfl, hT⟩ | ⟨rfl, hT⟩ | ⟨rfl, hT⟩
        · have hq : wr.cell? ⟨g + 1, 9, none⟩ = some .nilFunc := cell_of_row hT.g1 9 _ rfl
          have hfz : wr.frozen? ⟨g + 1, 9, none⟩ = false := by simp [World.frozen?, hT.g1]
          go_wp2_with fail
          go_roundw
          case rel => exact .inr (.inl ⟨rfl, hT.set 9 _ rfl⟩)
          case measure => simp [intOf]
        · have hq : wr.cell? ⟨g + 1, 10, none⟩ = some .nilFunc := cell_of_row hT.g1 10 _ rfl
          have hfz : wr.frozen? ⟨g + 1, 10, none⟩ = false := by simp [World.frozen?, hT.g1]
          go_wp2_with fail
          go_roundw
          case rel => exact .inr (.inr (.inl ⟨rfl, hT.set 10 _ rfl⟩))
          case measure => simp [intOf]
        · have hq : wr.cell? ⟨g + 1, 11, none⟩ = some .nilFunc := cell_of_row hT.g1 11 _ rfl
          have hfz : wr.frozen? ⟨g + 1, 11, none⟩ = false := by simp [World.frozen?, hT.g1]
          go_wp2_with fail
          go_roundw
          case rel => exact .inr (.inr (.inr (.inl ⟨rfl, hT.set 11 _ rfl⟩)))
          case measure => simp [intOf]
        · have hq : wr.cell? ⟨g + 1, 12, none⟩ = some .nilFunc := cell_of_row hT.g1 12 _ rfl
          have hfz : wr.frozen? ⟨g + 1, 12, none⟩ = false := by simp [World.frozen?, hT.g1]
          go_wp2_with fail
          go_roundw
          case rel => exact .inr (.inr (.inr (.inr (.inl ⟨rfl, hT.set 12 _ rfl⟩))))
          case measure => simp [intOf]
        · have hq : wr.cell? ⟨g + 1, 13, none⟩ = some .nilFunc := cell_of_row hT.g1 13 _ rfl
          have hfz : wr.frozen? ⟨g + 1, 13, none⟩ = false := by simp [World.frozen?, hT.g1]
          go_wp2_with fail
          go_roundw
          case rel => exact .inr (.inr (.inr (.inr (.inr (.inl ⟨rfl, hT.set 13 _ rfl⟩)))))
          case measure => simp [intOf]
        · have hq : wr.cell? ⟨g + 1, 14, none⟩ = some .nilFunc := cell_of_row hT.g1 14 _ rfl
          have hfz : wr.frozen? ⟨g + 1, 14, none⟩ = false := by simp [World.frozen?, hT.g1]
          go_wp2_with fail
          go_roundw
          case rel => exact .inr (.inr (.inr (.inr (.inr (.inr (⟨rfl, hT.set 14 _ rfl⟩))))))
          case measure => simp [intOf]
        · have hrg : wr.rangeAt (g + 1) 0 tabA.toList := range_part hT.g1 0 _ (fun j v hv => by rw [Nat.zero_add]; simpa [tabA, tabC6] using hv)
          have h0 := hT.g0
          have hgr := hT.gr
          have hlt := hT.lt
          clear hT
          go_wp2_with (first
            | (refine wpList_load_whole rfl 56 _ rfl (g + 1) 0 rfl tabA _ hrg Tryd.underlying56 rfl (by kernel_rfl) ?_)
            | (refine wpList_store_abs rfl 56 _ _ rfl g tabA rfl rfl 56 _ h0 (by kernel_rfl) (by kernel_rfl) (by kernel_rfl) ?_; intro w4 hb4 hbl4 hs4))
          exact bodyPost_ret (v := .agg tabA) (results_cell_row rfl _ w4 g 56 tabA (0, 0) _ rfl hb4 Tryd.underlying56 rfl (by kernel_rfl)) rfl ⟨rfl, hgr.step hlt hbl4⟩
end Go.Proofs.YtnnhaenmoifplaaDoor
