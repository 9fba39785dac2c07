/-
  Tab stops: the list of all.
-/
import Derived.Test.YtjdmobildcgidaaDoorTbD
import Derived.Lib.TrailingZeros
namespace Go.Proofs.YtjdmobildcgidaaDoor
set_option linter.unusedSimpArgs false
set_option linter.unusedVariables false
open Go.RowKit
set_option linter.unusedVariables false

/-- The stops below a column. -/
def listF (f : Nat → Bool) (N : Nat) : List Nat := (List.range N).filter f
/-- The places of a word's bits. -/
def onesL (x : Nat) : List Nat := (List.range 64).filter (fun j => x.testBit j)
theorem onesL_zero : onesL 0 = [] := by unfold onesL; simp
theorem filter_first (p : Nat → Bool) (t : Nat) (hp : p t = true) (hl : ∀ j, j < t → p j = false) (n : Nat) : (List.range (t + 1 + n)).filter p = t :: (List.range (t + 1 + n)).filter (fun j => p j && decide (j ≠ t)) := by
  induction n with
  | zero =>
    rw [Nat.add_zero, List.range_succ, List.filter_append, List.filter_append]
    have h1 : (List.range t).filter p = [] := List.filter_eq_nil_iff.2 fun a ha => by simp [hl a (by simpa using ha)]
    have h2 : (List.range t).filter (fun j => p j && decide (j ≠ t)) = [] := List.filter_eq_nil_iff.2 fun a ha => by simp [hl a (by simpa using ha)]
    rw [h1, h2]
    simp [hp]
  | succ n ih =>
    rw [show t + 1 + (n + 1) = (t + 1 + n) + 1 from rfl, List.range_succ, List.filter_append, List.filter_append, ih]
    have hne : t + 1 + n ≠ t := by omega
    cases hq : p (t + 1 + n) <;> simp [hq, hne]
theorem ctz_bit (x : Nat) (h0 : x ≠ 0) (h : x < 18446744073709551616) : Lib.ctz 64 x < 64 ∧ x.testBit (Lib.ctz 64 x) = true ∧ ∀ j, j < Lib.ctz 64 x → x.testBit j = false := by
  have hl := Lib.lowest_bit 64 x h0 h
  refine ⟨hl.2, ?_⟩
  have hc : Lib.ctz 64 x = Lib.ctzFrom 64 x := by unfold Lib.ctz; rw [if_neg h0]
  obtain ⟨m, hm, _⟩ := Lib.ctzFrom_spec 64 x (by omega) h
  rw [← hc] at hm
  generalize Lib.ctz 64 x = t at hm
  refine ⟨?_, fun j hj => ?_⟩
  · rw [hm, Nat.testBit_two_pow_mul]; simp
  · rw [hm, Nat.testBit_two_pow_mul]
    have : ¬ t ≤ j := by omega
    simp [this]
theorem onesL_step (x : Nat) (h0 : x ≠ 0) (h : x < 18446744073709551616) : onesL x = Lib.ctz 64 x :: onesL (x &&& (x - 1)) := by
  obtain ⟨h64, hb, hl⟩ := ctz_bit x h0 h
  generalize Lib.ctz 64 x = t at h64 hb hl
  unfold onesL
  have hf := filter_first (fun j => x.testBit j) t hb hl (63 - t)
  rw [show t + 1 + (63 - t) = 64 by omega] at hf
  rw [hf]
  congr 1
  apply List.filter_congr
  intro j _
  rw [low_split x t hb hl j]
theorem listF_step (f : Nat → Bool) (i : Nat) : listF f (64 * i) ++ (onesL (wordF f i)).map (64 * i + ·) = listF f (64 * (i + 1)) := by
  unfold listF onesL
  rw [show 64 * (i + 1) = 64 * i + 64 by omega, List.range_add, List.filter_append]
  congr 1
  rw [List.filter_map]
  congr 1
  apply List.filter_congr
  intro j hj
  have : j < 64 := by simpa using hj
  rw [word_bit]; simp [this]
theorem listF_len (f : Nat → Bool) (N : Nat) : (listF f N).length ≤ N := by
  have := List.length_filter_le f (List.range N)
  rw [List.length_range] at this
  exact this
def ncells (l : List Nat) : List Value := l.map fun (n : Nat) => Value.int .i64 (n : Int)
theorem ncells_len (l : List Nat) : (ncells l).length = l.length := by simp [ncells]
theorem ncells_snoc (l : List Nat) (n : Nat) : ncells (l ++ [n]) = ncells l ++ [.int .i64 (n : Int)] := by simp [ncells]

/-- The library's table is there. -/
def TabOk (w : World) : Prop := TabAt 0 Lib.deBruijn64tab w
theorem TabOk.gr {w w' : World} (h : TabOk w) (hg : Gr w w') : TabOk w' := fun j hj => hg.cellAt (h j hj)
theorem idx8 (x0 x1 x2 x3 x4 x5 x6 x7 : Value) (w : World) :
    (Instr.index 43 (.agg #[x0, x1, x2, x3, x4, x5, x6, x7]) (.int .i64 0)).run Tryd.prog w = .ok x0 w ∧ (Instr.index 43 (.agg #[x0, x1, x2, x3, x4, x5, x6, x7]) (.int .i64 1)).run Tryd.prog w = .ok x1 w ∧
    (Instr.index 43 (.agg #[x0, x1, x2, x3, x4, x5, x6, x7]) (.int .i64 2)).run Tryd.prog w = .ok x2 w ∧ (Instr.index 43 (.agg #[x0, x1, x2, x3, x4, x5, x6, x7]) (.int .i64 3)).run Tryd.prog w = .ok x3 w ∧
    (Instr.index 43 (.agg #[x0, x1, x2, x3, x4, x5, x6, x7]) (.int .i64 4)).run Tryd.prog w = .ok x4 w ∧ (Instr.index 43 (.agg #[x0, x1, x2, x3, x4, x5, x6, x7]) (.int .i64 5)).run Tryd.prog w = .ok x5 w ∧
    (Instr.index 43 (.agg #[x0, x1, x2, x3, x4, x5, x6, x7]) (.int .i64 6)).run Tryd.prog w = .ok x6 w ∧ (Instr.index 43 (.agg #[x0, x1, x2, x3, x4, x5, x6, x7]) (.int .i64 7)).run Tryd.prog w = .ok x7 w :=
  ⟨by kernel_rfl, by kernel_rfl, by kernel_rfl, by kernel_rfl, by kernel_rfl, by kernel_rfl, by kernel_rfl, by kernel_rfl⟩
set_option maxRecDepth 100000 in
theorem idx8w (W : Nat → Nat) (k : Nat) (hk : k < 8) (w : World) :
    (Instr.index 43 (.agg #[.int .u64 (W 0 : Nat), .int .u64 (W 1 : Nat), .int .u64 (W 2 : Nat), .int .u64 (W 3 : Nat), .int .u64 (W 4 : Nat), .int .u64 (W 5 : Nat), .int .u64 (W 6 : Nat), .int .u64 (W 7 : Nat)]) (.int .i64 (k : Int))).run Tryd.prog w = .ok (.int .u64 (W k : Nat)) w := by
  obtain ⟨h0, h1, h2, h3, h4, h5, h6, h7⟩ := idx8 (.int .u64 (W 0 : Nat)) (.int .u64 (W 1 : Nat)) (.int .u64 (W 2 : Nat)) (.int .u64 (W 3 : Nat)) (.int .u64 (W 4 : Nat)) (.int .u64 (W 5 : Nat)) (.int .u64 (W 6 : Nat)) (.int .u64 (W 7 : Nat)) w
  rcases (by omega : k = 0 ∨ k = 1 ∨ k = 2 ∨ k = 3 ∨ k = 4 ∨ k = 5 ∨ k = 6 ∨ k = 7) with rfl | rfl | rfl | rfl | rfl | rfl | rfl | rfl <;> assumption
theorem intsT : Tryd.prog.underlying 36 = some (.slice 3) := Tryd.underlying36
theorem intI : (Tryd.prog.info? 3).map (fun i => (i.zero, i.size, i.bytes)) = some (some (.int .i64 0), 1, 8) := by kernel_rfl
/-- A row of numbers of the call's own, handed back. -/
def NOut (w : World) (l : List Nat) (e : Ending) (w' : World) : Prop := ∃ va cap, e = .returned (.slice va l.length cap) ∧ w'.ownsRow w.heap.size 3 1 (.slice va l.length cap) l.length (ncells l) ∧ Gr w w'

set_option maxRecDepth 100000 in
set_option maxHeartbeats 2000000 in
theorem list_any (p : Nat) (n : Int) (f : Nat → Bool) (w : World) (h : StAt w p n f) (hT : TabOk w) : Calls Tryd.prog 19 #[.pointer (some ⟨p, 0, none⟩)] w (NOut w (listF f 512)) := by
  unfold StAt stCells at h
  have hidx := fun k (hk : k < 8) w => idx8w (wordF f) k hk w
  have hstep := listF_step f
  have hwl := word_lt f
  obtain ⟨W, hW⟩ : ∃ W, W = wordF f := ⟨_, rfl⟩
  rw [← hW] at h hidx hstep hwl
  clear hW
  have k0 := cell_of_row h 0 _ rfl
  have k1 := cell_of_row h 1 _ rfl
  have k2 := cell_of_row h 2 _ rfl
  have k3 := cell_of_row h 3 _ rfl
  have k4 := cell_of_row h 4 _ rfl
  have k5 := cell_of_row h 5 _ rfl
  have k6 := cell_of_row h 6 _ rfl
  have k7 := cell_of_row h 7 _ rfl
  have k8 := cell_of_row h 8 _ rfl
  have HS := Lib.hid hstep
  have HW := Lib.hid hwl
  have HI := Lib.hid hidx
  clear h hstep hwl hidx
  go_enter Tryd.func19, Tryd.ntmps19
  go_wp2_with fail
  clear k0 k1 k2 k3 k4 k5 k6 k7 k8
  go_loopw [3, 10] (fun v iv wr => ∃ (i m : Nat) (va : Option Addr) (cap : Nat), i ≤ 8 ∧ iv = .int .i64 (i : Int) ∧ v = .slice va m cap ∧ m ≤ 512 ∧ wr.ownsRow w.heap.size 3 1 (.slice va m cap) m (ncells (listF f (64 * i))) ∧ Gr w wr) (fun _ iv _ => 8 - (intOf iv).toNat)
  case atStart => exact ⟨0, 0, none, 0, by omega, rfl, rfl, by omega, by simpa [listF, ncells] using World.ownsRow_nil w w.heap.size 3 1, by (repeat (first | with_reducible exact Gr.refl _ | with_reducible assumption | with_reducible refine Gr.setCell ?_ (by simp; try omega) _ | with_reducible refine Gr.alloc ?_ _ | with_reducible refine Gr.drew ?_ | with_reducible refine Gr.drewN ?_ _ | with_reducible refine Gr.trans ?_ (by assumption)))⟩
  case round =>
    obtain ⟨i, m, va, cap, hi, rfl, rfl, hm, hown, hgr⟩ := hrel
    by_cases hlt : i < 8
    · have hI : (i : Int) < 8 := by omega
      have hix := HI.out i hlt
      have hwi : IntKind.i64.wrap ((i : Int) * 64) = (i : Int) * 64 := IntWalk.i64_in _ (by omega)
      go_wp2_with fail
      go_loopw [3, 5] (fun v bv wq => ∃ (o : List Nat) (x m : Nat) (va : Option Addr) (cap : Nat), bv = .int .u64 (x : Int) ∧ x < 18446744073709551616 ∧ v = .slice va m cap ∧ wq.ownsRow w.heap.size 3 1 (.slice va m cap) m (ncells o) ∧ Hid (o ++ (onesL x).map (64 * i + ·) = listF f (64 * (i + 1))) ∧ Gr w wq) (fun _ bv _ => (intOf bv).toNat)
      case atStart => exact ⟨listF f (64 * i), W i, m, va, cap, rfl, HW.out i, rfl, hown, Lib.hid (HS.out i), hgr⟩
      case round =>
        clear hown hgr hix
        obtain ⟨o, x, m, va, cap, rfl, hx, rfl, hown, HO, hgr⟩ := hrel
        have hml : m = o.length := by have := hown.1; rw [ncells_len] at this; omega
        have hol : o.length + (onesL x).length ≤ 64 * (i + 1) := by
          have h1 := congrArg List.length HO.out
          rw [List.length_append, List.length_map] at h1
          have := listF_len f (64 * (i + 1))
          omega
        have hmb : m ≤ 512 := by omega
        by_cases hx0 : x = 0
        · subst hx0
          have hl : o = listF f (64 * (i + 1)) := by rw [← HO.out, onesL_zero]; simp
          have HL := Lib.hid hl
          clear hl hml
          go_wp2_with fail
          go_roundw
          case rel => exact ⟨i + 1, m, va, cap, by omega, by go_num, rfl, by omega, by rw [← HL.out]; exact hown, hgr⟩
          case measure => simp [intOf]; omega
        · have hst := onesL_step x hx0 hx
          have hxb := (ctz_bit x hx0 hx).1
          have hT2 := hT.gr hgr
          have htz := fun w (h : TabOk w) => Tryd.bits_TrailingZeros64 x hx w (fun _ => h)
          have hne : ((x : Int) != 0) = true := by simp; omega
          obtain ⟨y, hy⟩ : ∃ y, y = x - 1 := ⟨_, rfl⟩
          have hsub : IntKind.u64.wrap ((x : Int) - 1) = (y : Int) := by rw [IntKind.wrap_u64]; omega
          have hand := u64_and_nat x y hx (by omega)
          rw [← hy] at hst
          have hz1 : x &&& y ≤ y := Nat.and_le_right
          obtain ⟨z, hz⟩ : ∃ z, z = x &&& y := ⟨_, rfl⟩
          rw [← hz] at hst hand hz1
          have hzx : z < x := by omega
          have hz64 : z < 18446744073709551616 := by omega
          obtain ⟨t, ht⟩ : ∃ t, t = Lib.ctz 64 x := ⟨_, rfl⟩
          rw [← ht] at hst hxb htz
          have hHO2 : (o ++ [64 * i + t]) ++ (onesL z).map (64 * i + ·) = listF f (64 * (i + 1)) := by rw [← HO.out, hst]; simp
          have HO2 := Lib.hid hHO2
          have hm5 : m + 1 ≤ 512 := by rw [hst] at hol; simp at hol; omega
          have hwt : IntKind.i64.wrap ((i : Int) * 64 + (t : Int)) = (i : Int) * 64 + (t : Int) := IntWalk.i64_in _ (by omega)
          clear hst hHO2 hol hml hz ht hy hz1 HO
          go_wp2_with (first
            | (go_at_call 35; (with_reducible refine (htz _ hT2).mono ?_); rintro e w1 ⟨rfl, rfl⟩)
            | (at_builtin; (refine wpList_add (w0 := w) rfl _ _ _ _ rfl 3 _ 8 intsT intI rfl (by omega) _ m _ rfl (hown.alloc _) (hgr.alloc _) _ 1 [.int .i64 ((i : Int) * 64 + (t : Int))] rfl (src_block intsT _ (heap_alloc_new _ _) rfl (by simp [Value.oneCell'])) (by omega) ?_); intro va2 cap2 w3 hown3 hg3))
          go_roundw
          case rel => exact ⟨o ++ [64 * i + t], z, m + 1, va2, cap2, rfl, hz64, rfl, by rw [ncells_snoc, show ((64 * i + t : Nat) : Int) = (i : Int) * 64 + (t : Int) by omega]; exact hown3, HO2, hg3⟩
          case measure => simp [intOf]; omega
    · obtain rfl : i = 8 := by omega
      have hI : ¬ ((8 : Nat) : Int) < 8 := by omega
      have hml : m = (listF f 512).length := by have := hown.1; rw [ncells_len] at this; simpa using this.symm
      have HM := Lib.hid hml
      clear hml
      go_wp2_with fail
      go_ret
      exact ⟨va, cap, by rw [← HM.out]; rfl, by rw [← HM.out]; exact hown, hgr⟩
end Go.Proofs.YtjdmobildcgidaaDoor
