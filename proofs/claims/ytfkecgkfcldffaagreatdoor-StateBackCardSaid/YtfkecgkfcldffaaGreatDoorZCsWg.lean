/-
  The plain tables of the sets of characters and what the two texts compute from them, in plain terms; no program in sight.
  What the program's sets of characters compute, function by function: the glyph of a code.
  The plain table of the sets: numbers, ids, sizes, names; finding by id; both texts find the same.
  What the functions on ids and names of the sets compute, in both texts.
  What the functions on ids and names of the sets compute, in both texts.
  The laws on ids, names and finding of sets of characters; the law on national sets, the law on what is shown.
-/
import Derived.Laws.RangeAny
import Derived.Laws.Runes
import Derived.Lib.RuneCount
import Derived.Test.YtfkecgkfcldffaaGreatDoorRows
import Derived.Test.YtfkecgkfcldffaaGreatDoorZLw4
namespace Go.Proofs.YtfkecgkfcldffaaGreatDoor
set_option linter.unusedSimpArgs false
set_option linter.unusedVariables false

def between (a b n : Int) : Bool := decide (a ≤ n) && decide (n ≤ b)

end Go.Proofs.YtfkecgkfcldffaaGreatDoor

namespace Go.Proofs.YtfkecgkfcldffaaGreatDoor
set_option linter.unusedSimpArgs false
set_option linter.unusedVariables false
open Go.RowKit

set_option maxHeartbeats 400000 in
theorem is_any (n : Int) (w : World) :
    Calls Tryz.prog 111 #[.int .i64 n] w fun e w' => e = .returned (.bool (between 1 17 n)) ∧ w = w' := by
  go_enter Tryz.func111, Tryz.ntmps111
  go_wp2
  all_goals (go_ret; refine ⟨?_, rfl⟩; simp [between]; try omega)

end Go.Proofs.YtfkecgkfcldffaaGreatDoor

namespace Go.Proofs.YtfkecgkfcldffaaGreatDoor
set_option linter.unusedSimpArgs false
set_option linter.unusedVariables false
def rowSet (k : Nat) : Int := match k with
  | 0 => 1
  | 1 => 2
  | 2 => 3
  | 3 => 4
  | 4 => 5
  | 5 => 6
  | 6 => 7
  | 7 => 8
  | 8 => 9
  | 9 => 10
  | 10 => 11
  | 11 => 12
  | 12 => 13
  | 13 => 14
  | 14 => 15
  | 15 => 16
  | 16 => 17
  | 17 => 8
  | 18 => 9
  | 19 => 10
  | 20 => 13
  | 21 => 13
  | 22 => 16
  | 23 => 2
  | _ => 0
def rowId (k : Nat) : ByteArray := match k with
  | 0 => ⟨#[66]⟩
  | 1 => ⟨#[48]⟩
  | 2 => ⟨#[62]⟩
  | 3 => ⟨#[37, 53]⟩
  | 4 => ⟨#[65]⟩
  | 5 => ⟨#[65]⟩
  | 6 => ⟨#[52]⟩
  | 7 => ⟨#[53]⟩
  | 8 => ⟨#[82]⟩
  | 9 => ⟨#[57]⟩
  | 10 => ⟨#[75]⟩
  | 11 => ⟨#[89]⟩
  | 12 => ⟨#[96]⟩
  | 13 => ⟨#[37, 54]⟩
  | 14 => ⟨#[90]⟩
  | 15 => ⟨#[55]⟩
  | 16 => ⟨#[61]⟩
  | 17 => ⟨#[67]⟩
  | 18 => ⟨#[102]⟩
  | 19 => ⟨#[81]⟩
  | 20 => ⟨#[69]⟩
  | 21 => ⟨#[54]⟩
  | 22 => ⟨#[72]⟩
  | 23 => ⟨#[50]⟩
  | _ => ⟨#[]⟩
def rowWide (k : Nat) : Bool := match k with
  | 0 => false
  | 1 => false
  | 2 => false
  | 3 => false
  | 4 => true
  | 5 => false
  | 6 => false
  | 7 => false
  | 8 => false
  | 9 => false
  | 10 => false
  | 11 => false
  | 12 => false
  | 13 => false
  | 14 => false
  | 15 => false
  | 16 => false
  | 17 => false
  | 18 => false
  | 19 => false
  | 20 => false
  | 21 => false
  | 22 => false
  | 23 => false
  | _ => false
def rowName (k : Nat) : ByteArray := match k with
  | 0 => ⟨#[97, 115, 99, 105, 105]⟩
  | 1 => ⟨#[115, 112, 101, 99, 105, 97, 108]⟩
  | 2 => ⟨#[116, 101, 99, 104, 110, 105, 99, 97, 108]⟩
  | 3 => ⟨#[115, 117, 112, 112, 108, 101, 109, 101, 110, 116, 97, 108]⟩
  | 4 => ⟨#[108, 97, 116, 105, 110]⟩
  | 5 => ⟨#[98, 114, 105, 116, 105, 115, 104]⟩
  | 6 => ⟨#[100, 117, 116, 99, 104]⟩
  | 7 => ⟨#[102, 105, 110, 110, 105, 115, 104]⟩
  | 8 => ⟨#[102, 114, 101, 110, 99, 104]⟩
  | 9 => ⟨#[99, 97, 110, 97, 100, 105, 97, 110]⟩
  | 10 => ⟨#[103, 101, 114, 109, 97, 110]⟩
  | 11 => ⟨#[105, 116, 97, 108, 105, 97, 110]⟩
  | 12 => ⟨#[110, 111, 114, 119, 101, 103, 105, 97, 110]⟩
  | 13 => ⟨#[112, 111, 114, 116, 117, 103, 117, 101, 115, 101]⟩
  | 14 => ⟨#[115, 112, 97, 110, 105, 115, 104]⟩
  | 15 => ⟨#[115, 119, 101, 100, 105, 115, 104]⟩
  | 16 => ⟨#[115, 119, 105, 115, 115]⟩
  | 17 => ⟨#[]⟩
  | 18 => ⟨#[]⟩
  | 19 => ⟨#[]⟩
  | 20 => ⟨#[]⟩
  | 21 => ⟨#[]⟩
  | 22 => ⟨#[]⟩
  | 23 => ⟨#[]⟩
  | _ => ⟨#[]⟩
def findFrom (wide : Bool) (id : ByteArray) : Nat → Nat → Int
  | 0, _ => 0
  | f + 1, k => if rowId k = id ∧ rowWide k = wide then rowSet k else findFrom wide id f (k + 1)
/-- The set of an id; 0: none. -/
def findP (wide : Bool) (id : ByteArray) : Int := findFrom wide id 24 0

def idOf (n : Int) : ByteArray := if between 1 17 n then rowId (n - 1).toNat else ⟨#[]⟩
def setNo (n : Int) : Int := if between 1 17 n then rowSet (n - 1).toNat else 0
def wideOf (n : Int) : Bool := if between 1 17 n then rowWide (n - 1).toNat else false
def nameOf (n : Int) : ByteArray := if between 1 17 n then rowName (n - 1).toNat else ⟨#[]⟩

theorem fin17 {p : Int → Prop} (h : ∀ n : Fin 17, p (n.val + 1)) (n : Int) (hn : between 1 17 n = true) : p n := by
  simp only [between, Bool.and_eq_true, decide_eq_true_eq] at hn
  obtain ⟨k, rfl⟩ : ∃ k : Fin 17, n = k.val + 1 := ⟨⟨(n - 1).toNat, by omega⟩, by simp; omega⟩
  exact h k
theorem find_back (n : Int) (hn : between 1 17 n = true) : findP (wideOf n) (idOf n) = n :=
  fin17 (p := fun n => findP (wideOf n) (idOf n) = n) (by decide +kernel) n hn
theorem rowSet_pos (k : Nat) (h : k < 24) : rowSet k ≠ 0 := by
  have H : ∀ k : Fin 24, rowSet k.val ≠ 0 := by decide +kernel
  exact H ⟨k, h⟩
theorem find_range (wide : Bool) (id : ByteArray) : 0 ≤ findP wide id ∧ findP wide id ≤ 17 := by
  have H : ∀ k, 0 ≤ rowSet k ∧ rowSet k ≤ 17 := by intro k; unfold rowSet; split <;> decide
  have hf : ∀ f k, 0 ≤ findFrom wide id f k ∧ findFrom wide id f k ≤ 17 := by
    intro f
    induction f with
    | zero => intro k; show (0 : Int) ≤ 0 ∧ (0 : Int) ≤ 17; omega
    | succ f ih => intro k; rw [findFrom]; split; exact H k; exact ih _
  exact hf 24 0
end Go.Proofs.YtfkecgkfcldffaaGreatDoor

namespace Go.Proofs.YtfkecgkfcldffaaGreatDoor
set_option linter.unusedSimpArgs false
set_option linter.unusedVariables false
open Go.RowKit

def rowA (k : Nat) : Array Value := #[.int .i64 (rowSet k), .string (rowId k), .bool (rowWide k), .string (rowName k)]
def rowsV : Array Value := ((List.range 24).flatMap fun k => (rowA k).toList).toArray
def zeroRows : Array Value := ((List.range 24).flatMap fun _ => [Value.int .i64 0, .string ByteArray.empty, .bool false, .string ByteArray.empty]).toArray

theorem index_rows (k : Nat) (hk : k < 24) (w : World) : (Instr.index 169 (.agg rowsV) (.int .i64 k)).run Tryz.prog w = .ok (.agg (rowA k)) w := by
  have H : k = 0 ∨ k = 1 ∨ k = 2 ∨ k = 3 ∨ k = 4 ∨ k = 5 ∨ k = 6 ∨ k = 7 ∨ k = 8 ∨ k = 9 ∨ k = 10 ∨ k = 11 ∨ k = 12 ∨ k = 13 ∨ k = 14 ∨ k = 15 ∨ k = 16 ∨ k = 17 ∨ k = 18 ∨ k = 19 ∨ k = 20 ∨ k = 21 ∨ k = 22 ∨ k = 23 := by omega
  rcases H with rfl | rfl | rfl | rfl | rfl | rfl | rfl | rfl | rfl | rfl | rfl | rfl | rfl | rfl | rfl | rfl | rfl | rfl | rfl | rfl | rfl | rfl | rfl | rfl
  all_goals (show _ = _; kernel_rfl)

set_option maxRecDepth 100000 in
set_option maxHeartbeats 1000000 in
theorem rows_any (w : World) :
    Calls Tryz.prog 112 #[] w fun e w' => e = .returned (.agg rowsV) ∧ Gr w w' := by
  have hz : ∀ w, (zeroValue 169).run Tryz.prog w = .ok (.agg zeroRows) w := fun _ => by kernel_rfl
  go_enter Tryz.func112, Tryz.ntmps112
  go_wp2_with (first
    | (refine wpList_build_to rfl 169 _ rfl rowsV (by kernel_rfl) ?_)
    | (refine wpList_store_abs rfl 169 _ _ rfl w.heap.size rowsV rfl rfl 169 _ (heap_alloc_new _ _) (by kernel_rfl) (by kernel_rfl) (by kernel_rfl) ?_; intro w1 hh hb hs))
  exact bodyPost_ret (v := .agg rowsV) (results_cell_row rfl _ w1 w.heap.size 169 rowsV (0, 0) _ rfl hh Tryz.underlying169 rfl (by kernel_rfl)) rfl ⟨rfl, ((Gr.refl w).alloc _).step (Nat.le_refl _) hb⟩
end Go.Proofs.YtfkecgkfcldffaaGreatDoor

namespace Go.Proofs.YtfkecgkfcldffaaGreatDoor
set_option linter.unusedSimpArgs false
set_option linter.unusedVariables false
open Go.RowKit

set_option maxRecDepth 100000 in
set_option maxHeartbeats 1000000 in
theorem find_any (wide : Bool) (id : ByteArray) (w : World) :
    Calls Tryz.prog 103 #[.bool wide, .string id] w fun e w' => e = .returned (.tuple #[.int .i64 (findP wide id), .bool (decide (findP wide id ≠ 0))]) ∧ Gr w w' := by
  have hix : ∀ (k : Nat) (w : World), k < 24 → (Instr.index 169 (.agg rowsV) (.int .i64 k)).run Tryz.prog w = .ok (.agg #[.int .i64 (rowSet k), .string (rowId k), .bool (rowWide k), .string (rowName k)]) w := fun k w h => index_rows k h w
  go_enter Tryz.func103, Tryz.ntmps103
  go_wp2_with (go_at_call 112; refine (rows_any _).mono ?_; rintro e w1 ⟨rfl, hb⟩)
  go_loopw [9] (fun i w' => ∃ k : Nat, k ≤ 24 ∧ i = .int .i64 k ∧ Gr w w' ∧ findFrom wide id (24 - k) k = findP wide id) (fun i _ => 24 - (intOf i).toNat)
  case atStart => exact ⟨0, by omega, rfl, hb, rfl⟩
  case round =>
    obtain ⟨k, hk, rfl, hgr, hf⟩ := hrel
    by_cases hlt : k < 24
    · have h1 := hix k
      clear hix
      go_wp2
      · have e1 : rowId k = id := (bytes_inj _ _).1 (by assumption)
        have e2 : rowWide k = wide := by simpa using (show (rowWide k == wide) = true by assumption)
        have h2 : findP wide id = rowSet k := by
          rw [← hf, show 24 - k = (23 - k) + 1 by omega, findFrom, if_pos ⟨e1, e2⟩]
        have h3 : rowSet k ≠ 0 := rowSet_pos k hlt
        go_ret2
        exact ⟨by simp [h2, h3], by (repeat (first | with_reducible (refine Gr.setCell ?_ ?hp _; case hp => (simp; try omega)) | with_reducible refine Gr.alloc ?_ _ | with_reducible refine Gr.drew ?_ | with_reducible refine Gr.drewN ?_ _ | with_reducible assumption | with_reducible exact Gr.refl _ | with_reducible refine Gr.trans ?_ (by assumption)))⟩
      · have e2 : ¬ rowWide k = wide := by simpa using (show (rowWide k == wide) = false by assumption)
        go_roundw
        case rel => exact ⟨k + 1, by omega, by go_num, by (repeat (first | with_reducible (refine Gr.setCell ?_ ?hp _; case hp => (simp; try omega)) | with_reducible refine Gr.alloc ?_ _ | with_reducible refine Gr.drew ?_ | with_reducible refine Gr.drewN ?_ _ | with_reducible assumption | with_reducible exact Gr.refl _ | with_reducible refine Gr.trans ?_ (by assumption))), by rw [← hf, show 24 - k = (24 - (k + 1)) + 1 by omega, findFrom, if_neg (fun x => e2 x.2)]⟩
        case measure => simp [intOf]; omega
      · have e1 : ¬ rowId k = id := fun x => (show ¬ (rowId k).toList = id.toList by assumption) ((bytes_inj _ _).2 x)
        go_roundw
        case rel => exact ⟨k + 1, by omega, by go_num, by (repeat (first | with_reducible (refine Gr.setCell ?_ ?hp _; case hp => (simp; try omega)) | with_reducible refine Gr.alloc ?_ _ | with_reducible refine Gr.drew ?_ | with_reducible refine Gr.drewN ?_ _ | with_reducible assumption | with_reducible exact Gr.refl _ | with_reducible refine Gr.trans ?_ (by assumption))), by rw [← hf, show 24 - k = (24 - (k + 1)) + 1 by omega, findFrom, if_neg (fun x => e1 x.1)]⟩
        case measure => simp [intOf]; omega
    · obtain rfl : k = 24 := by omega
      have h2 : findP wide id = 0 := hf.symm
      go_wp2
      go_ret2
      exact ⟨by simp [h2], hgr⟩

set_option maxRecDepth 100000 in
set_option maxHeartbeats 1000000 in
theorem of_any (n : Int) (w : World) :
    Calls Tryz.prog 96 #[.int .i64 n] w fun e w' => e = .returned (.agg #[.int .i64 (setNo n), .string (idOf n), .bool (wideOf n), .string (nameOf n)]) ∧ Gr w w' := by
  cases hb : between 1 17 n with
  | false =>
    go_enter Tryz.func96, Tryz.ntmps96
    go_wp2_with (go_at_call 111; refine (is_any _ _).mono ?_; rintro e w1 ⟨rfl, rfl⟩)
    refine bodyPost_ret (v := .agg #[.int .i64 0, .string ⟨#[]⟩, .bool false, .string ⟨#[]⟩]) (by simp [results, Tryz.results96, go_sem]) rfl ⟨by simp [setNo, idOf, wideOf, nameOf, hb], by (repeat (first | with_reducible (refine Gr.setCell ?_ ?hp _; case hp => (simp; try omega)) | with_reducible refine Gr.alloc ?_ _ | with_reducible refine Gr.drew ?_ | with_reducible refine Gr.drewN ?_ _ | with_reducible assumption | with_reducible exact Gr.refl _ | with_reducible refine Gr.trans ?_ (by assumption)))⟩
  | true =>
    obtain ⟨k, hk17, rfl⟩ : ∃ k : Nat, k < 17 ∧ n = k + 1 := ⟨(n - 1).toNat, by simp [between] at hb; omega, by simp [between] at hb; omega⟩
    have e0 : ((k : Int) + 1 - 1).toNat = k := by omega
    have hix := fun w => index_rows k (by omega) w
    unfold rowA at hix
    simp only [setNo, idOf, wideOf, nameOf, hb, if_true, e0]
    have hb' := Lib.hid hb
    clear hb e0
    have hbt : between 1 17 ((k : Int) + 1) = true := hb'.out
    go_enter Tryz.func96, Tryz.ntmps96
    go_wp2_with (first
      | (go_at_call 111; refine (is_any _ _).mono ?_; rintro e w1 ⟨rfl, rfl⟩)
      | (go_at_call 112; refine (rows_any _).mono ?_; rintro e w1 ⟨rfl, hb1⟩; have hk := hb1.keep)
      | (refine wpList_store_abs rfl 158 _ _ rfl w.heap.size #[.int .i64 (rowSet k), .string (rowId k), .bool (rowWide k), .string (rowName k)] rfl rfl 158 _ hk (by kernel_rfl) rfl (by kernel_rfl) ?_; intro w2 hh hb2 hs2))
    exact bodyPost_ret (v := .agg #[.int .i64 (rowSet k), .string (rowId k), .bool (rowWide k), .string (rowName k)])
      (results_cell_row rfl _ w2 w.heap.size 158 _ (0, 0) _ rfl hh Tryz.underlying158 rfl (by kernel_rfl)) rfl ⟨rfl, (((Gr.refl w).alloc _).trans hb1).step (Nat.le_refl _) hb2⟩
end Go.Proofs.YtfkecgkfcldffaaGreatDoor

namespace Go.Proofs.YtfkecgkfcldffaaGreatDoor
set_option linter.unusedSimpArgs false
set_option linter.unusedVariables false
open Go.RowKit

theorem field_row (i : Nat) (hi : i = 1 ∨ i = 2 ∨ i = 3) (a b c d : Value) (w : World) : (Instr.field 158 (.agg #[a, b, c, d]) i).run Tryz.prog w = .ok (if i = 1 then b else if i = 2 then c else d) w := by
  rcases hi with rfl | rfl | rfl <;> (show _ = _; kernel_rfl)

set_option maxHeartbeats 400000 in
theorem id_any (n : Int) (w : World) :
    Calls Tryz.prog 62 #[.int .i64 n] w fun e w' => e = .returned (.tuple #[.string (idOf n), .bool (wideOf n)]) ∧ Gr w w' := by
  have f1 := fun a b c d w => field_row 1 (.inl rfl) a b c d w
  have f2 := fun a b c d w => field_row 2 (.inr (.inl rfl)) a b c d w
  simp only [if_true, if_false, Nat.reduceEqDiff] at f1 f2
  go_enter Tryz.func62, Tryz.ntmps62
  go_wp2_with (go_at_call 96; refine (of_any _ _).mono ?_; rintro e w1 ⟨rfl, hb⟩)
  go_ret2
  exact ⟨rfl, by (repeat (first | with_reducible (refine Gr.setCell ?_ ?hp _; case hp => (simp; try omega)) | with_reducible refine Gr.alloc ?_ _ | with_reducible refine Gr.drew ?_ | with_reducible refine Gr.drewN ?_ _ | with_reducible assumption | with_reducible exact Gr.refl _ | with_reducible refine Gr.trans ?_ (by assumption)))⟩

end Go.Proofs.YtfkecgkfcldffaaGreatDoor
