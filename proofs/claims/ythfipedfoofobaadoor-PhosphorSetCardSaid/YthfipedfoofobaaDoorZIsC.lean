/-
  The plain tables of the sets of characters and what the two texts compute from them, in plain terms; no program in sight.
  What the program's sets of characters compute, function by function: the glyph of a code.
  The plain table of the sets: numbers, ids, sizes, names; finding by id; both texts find the same.
  What the functions on ids and names of the sets compute, in both texts.
  What the functions on ids and names of the sets compute, in both texts.
  The laws on ids, names and finding of sets of characters; the law on national sets, the law on what is shown.
  What the small functions on which sets are at hand compute.
  What looking up a code computes, in both texts.
-/
import Derived.BigRegion
import Derived.Deep.RegionHeld3
import Derived.Laws.RangeAny
import Derived.Laws.Runes
import Derived.Lib.RuneCount
import Derived.Test.YthfipedfoofobaaDoorRows
import Derived.Test.YthfipedfoofobaaDoorZLw4
namespace Go.Proofs.YthfipedfoofobaaDoor
set_option linter.unusedSimpArgs false
set_option linter.unusedVariables false

def between (a b n : Int) : Bool := decide (a ≤ n) && decide (n ≤ b)

end Go.Proofs.YthfipedfoofobaaDoor

namespace Go.Proofs.YthfipedfoofobaaDoor
set_option linter.unusedSimpArgs false
set_option linter.unusedVariables false
open Go.RowKit

set_option maxHeartbeats 400000 in
theorem is_any (n : Int) (w : World) :
    Calls Tryd.prog 74 #[.int .i64 n] w fun e w' => e = .returned (.bool (between 1 17 n)) ∧ w = w' := by
  go_enter Tryd.func74, Tryd.ntmps74
  go_wp2
  all_goals (go_ret; refine ⟨?_, rfl⟩; simp [between]; try omega)

end Go.Proofs.YthfipedfoofobaaDoor

namespace Go.Proofs.YthfipedfoofobaaDoor
set_option linter.unusedSimpArgs false
set_option linter.unusedVariables false
def rowSet (k : Nat) : Int := match k with
  | 0 => 1
  | 1 => 2
  | 2 => 3
  | 3 => 4
  | 4 => 5
  | 5 => 6
  | 6 => 7
  | 7 => 8
  | 8 => 9
  | 9 => 10
  | 10 => 11
  | 11 => 12
  | 12 => 13
  | 13 => 14
  | 14 => 15
  | 15 => 16
  | 16 => 17
  | 17 => 8
  | 18 => 9
  | 19 => 10
  | 20 => 13
  | 21 => 13
  | 22 => 16
  | 23 => 2
  | _ => 0
def rowId (k : Nat) : ByteArray := match k with
  | 0 => ⟨#[66]⟩
  | 1 => ⟨#[48]⟩
  | 2 => ⟨#[62]⟩
  | 3 => ⟨#[37, 53]⟩
  | 4 => ⟨#[65]⟩
  | 5 => ⟨#[65]⟩
  | 6 => ⟨#[52]⟩
  | 7 => ⟨#[53]⟩
  | 8 => ⟨#[82]⟩
  | 9 => ⟨#[57]⟩
  | 10 => ⟨#[75]⟩
  | 11 => ⟨#[89]⟩
  | 12 => ⟨#[96]⟩
  | 13 => ⟨#[37, 54]⟩
  | 14 => ⟨#[90]⟩
  | 15 => ⟨#[55]⟩
  | 16 => ⟨#[61]⟩
  | 17 => ⟨#[67]⟩
  | 18 => ⟨#[102]⟩
  | 19 => ⟨#[81]⟩
  | 20 => ⟨#[69]⟩
  | 21 => ⟨#[54]⟩
  | 22 => ⟨#[72]⟩
  | 23 => ⟨#[50]⟩
  | _ => ⟨#[]⟩
def rowWide (k : Nat) : Bool := match k with
  | 0 => false
  | 1 => false
  | 2 => false
  | 3 => false
  | 4 => true
  | 5 => false
  | 6 => false
  | 7 => false
  | 8 => false
  | 9 => false
  | 10 => false
  | 11 => false
  | 12 => false
  | 13 => false
  | 14 => false
  | 15 => false
  | 16 => false
  | 17 => false
  | 18 => false
  | 19 => false
  | 20 => false
  | 21 => false
  | 22 => false
  | 23 => false
  | _ => false
def rowName (k : Nat) : ByteArray := match k with
  | 0 => ⟨#[97, 115, 99, 105, 105]⟩
  | 1 => ⟨#[115, 112, 101, 99, 105, 97, 108]⟩
  | 2 => ⟨#[116, 101, 99, 104, 110, 105, 99, 97, 108]⟩
  | 3 => ⟨#[115, 117, 112, 112, 108, 101, 109, 101, 110, 116, 97, 108]⟩
  | 4 => ⟨#[108, 97, 116, 105, 110]⟩
  | 5 => ⟨#[98, 114, 105, 116, 105, 115, 104]⟩
  | 6 => ⟨#[100, 117, 116, 99, 104]⟩
  | 7 => ⟨#[102, 105, 110, 110, 105, 115, 104]⟩
  | 8 => ⟨#[102, 114, 101, 110, 99, 104]⟩
  | 9 => ⟨#[99, 97, 110, 97, 100, 105, 97, 110]⟩
  | 10 => ⟨#[103, 101, 114, 109, 97, 110]⟩
  | 11 => ⟨#[105, 116, 97, 108, 105, 97, 110]⟩
  | 12 => ⟨#[110, 111, 114, 119, 101, 103, 105, 97, 110]⟩
  | 13 => ⟨#[112, 111, 114, 116, 117, 103, 117, 101, 115, 101]⟩
  | 14 => ⟨#[115, 112, 97, 110, 105, 115, 104]⟩
  | 15 => ⟨#[115, 119, 101, 100, 105, 115, 104]⟩
  | 16 => ⟨#[115, 119, 105, 115, 115]⟩
  | 17 => ⟨#[]⟩
  | 18 => ⟨#[]⟩
  | 19 => ⟨#[]⟩
  | 20 => ⟨#[]⟩
  | 21 => ⟨#[]⟩
  | 22 => ⟨#[]⟩
  | 23 => ⟨#[]⟩
  | _ => ⟨#[]⟩
def idOf (n : Int) : ByteArray := if between 1 17 n then rowId (n - 1).toNat else ⟨#[]⟩
def setNo (n : Int) : Int := if between 1 17 n then rowSet (n - 1).toNat else 0
def wideOf (n : Int) : Bool := if between 1 17 n then rowWide (n - 1).toNat else false
def nameOf (n : Int) : ByteArray := if between 1 17 n then rowName (n - 1).toNat else ⟨#[]⟩

end Go.Proofs.YthfipedfoofobaaDoor

namespace Go.Proofs.YthfipedfoofobaaDoor
set_option linter.unusedSimpArgs false
set_option linter.unusedVariables false
open Go.RowKit

def rowA (k : Nat) : Array Value := #[.int .i64 (rowSet k), .string (rowId k), .bool (rowWide k), .string (rowName k)]
def rowsV : Array Value := ((List.range 24).flatMap fun k => (rowA k).toList).toArray
def zeroRows : Array Value := ((List.range 24).flatMap fun _ => [Value.int .i64 0, .string ByteArray.empty, .bool false, .string ByteArray.empty]).toArray

theorem index_rows (k : Nat) (hk : k < 24) (w : World) : (Instr.index 130 (.agg rowsV) (.int .i64 k)).run Tryd.prog w = .ok (.agg (rowA k)) w := by
  have H : k = 0 ∨ k = 1 ∨ k = 2 ∨ k = 3 ∨ k = 4 ∨ k = 5 ∨ k = 6 ∨ k = 7 ∨ k = 8 ∨ k = 9 ∨ k = 10 ∨ k = 11 ∨ k = 12 ∨ k = 13 ∨ k = 14 ∨ k = 15 ∨ k = 16 ∨ k = 17 ∨ k = 18 ∨ k = 19 ∨ k = 20 ∨ k = 21 ∨ k = 22 ∨ k = 23 := by omega
  rcases H with rfl | rfl | rfl | rfl | rfl | rfl | rfl | rfl | rfl | rfl | rfl | rfl | rfl | rfl | rfl | rfl | rfl | rfl | rfl | rfl | rfl | rfl | rfl | rfl
  all_goals (show _ = _; kernel_rfl)

set_option maxRecDepth 100000 in
set_option maxHeartbeats 1000000 in
theorem rows_any (w : World) :
    Calls Tryd.prog 75 #[] w fun e w' => e = .returned (.agg rowsV) ∧ Gr w w' := by
  have hz : ∀ w, (zeroValue 130).run Tryd.prog w = .ok (.agg zeroRows) w := fun _ => by kernel_rfl
  go_enter Tryd.func75, Tryd.ntmps75
  go_wp2_with (first
    | (refine wpList_build_to rfl 130 _ rfl rowsV (by kernel_rfl) ?_)
    | (refine wpList_store_abs rfl 130 _ _ rfl w.heap.size rowsV rfl rfl 130 _ (heap_alloc_new _ _) (by kernel_rfl) (by kernel_rfl) (by kernel_rfl) ?_; intro w1 hh hb hs))
  exact bodyPost_ret (v := .agg rowsV) (results_cell_row rfl _ w1 w.heap.size 130 rowsV (0, 0) _ rfl hh Tryd.underlying130 rfl (by kernel_rfl)) rfl ⟨rfl, ((Gr.refl w).alloc _).step (Nat.le_refl _) hb⟩
end Go.Proofs.YthfipedfoofobaaDoor

namespace Go.Proofs.YthfipedfoofobaaDoor
set_option linter.unusedSimpArgs false
set_option linter.unusedVariables false
open Go.RowKit

set_option maxRecDepth 100000 in
set_option maxHeartbeats 1000000 in
theorem of_any (n : Int) (w : World) :
    Calls Tryd.prog 58 #[.int .i64 n] w fun e w' => e = .returned (.agg #[.int .i64 (setNo n), .string (idOf n), .bool (wideOf n), .string (nameOf n)]) ∧ Gr w w' := by
  cases hb : between 1 17 n with
  | false =>
    go_enter Tryd.func58, Tryd.ntmps58
    go_wp2_with (go_at_call 74; refine (is_any _ _).mono ?_; rintro e w1 ⟨rfl, rfl⟩)
    refine bodyPost_ret (v := .agg #[.int .i64 0, .string ⟨#[]⟩, .bool false, .string ⟨#[]⟩]) (by simp [results, Tryd.results58, go_sem]) rfl ⟨by simp [setNo, idOf, wideOf, nameOf, hb], by (repeat (first | with_reducible (refine Gr.setCell ?_ ?hp _; case hp => (simp; try omega)) | with_reducible refine Gr.alloc ?_ _ | with_reducible refine Gr.drew ?_ | with_reducible refine Gr.drewN ?_ _ | with_reducible assumption | with_reducible exact Gr.refl _ | with_reducible refine Gr.trans ?_ (by assumption)))⟩
  | true =>
    obtain ⟨k, hk17, rfl⟩ : ∃ k : Nat, k < 17 ∧ n = k + 1 := ⟨(n - 1).toNat, by simp [between] at hb; omega, by simp [between] at hb; omega⟩
    have e0 : ((k : Int) + 1 - 1).toNat = k := by omega
    have hix := fun w => index_rows k (by omega) w
    unfold rowA at hix
    simp only [setNo, idOf, wideOf, nameOf, hb, if_true, e0]
    have hb' := Lib.hid hb
    clear hb e0
    have hbt : between 1 17 ((k : Int) + 1) = true := hb'.out
    go_enter Tryd.func58, Tryd.ntmps58
    go_wp2_with (first
      | (go_at_call 74; refine (is_any _ _).mono ?_; rintro e w1 ⟨rfl, rfl⟩)
      | (go_at_call 75; refine (rows_any _).mono ?_; rintro e w1 ⟨rfl, hb1⟩; have hk := hb1.keep)
      | (refine wpList_store_abs rfl 121 _ _ rfl w.heap.size #[.int .i64 (rowSet k), .string (rowId k), .bool (rowWide k), .string (rowName k)] rfl rfl 121 _ hk (by kernel_rfl) rfl (by kernel_rfl) ?_; intro w2 hh hb2 hs2))
    exact bodyPost_ret (v := .agg #[.int .i64 (rowSet k), .string (rowId k), .bool (rowWide k), .string (rowName k)])
      (results_cell_row rfl _ w2 w.heap.size 121 _ (0, 0) _ rfl hh Tryd.underlying121 rfl (by kernel_rfl)) rfl ⟨rfl, (((Gr.refl w).alloc _).trans hb1).step (Nat.le_refl _) hb2⟩
end Go.Proofs.YthfipedfoofobaaDoor

namespace Go.Proofs.YthfipedfoofobaaDoor
set_option linter.unusedSimpArgs false
set_option linter.unusedVariables false
open Go.RowKit

theorem field_row (i : Nat) (hi : i = 1 ∨ i = 2 ∨ i = 3) (a b c d : Value) (w : World) : (Instr.field 121 (.agg #[a, b, c, d]) i).run Tryd.prog w = .ok (if i = 1 then b else if i = 2 then c else d) w := by
  rcases hi with rfl | rfl | rfl <;> (show _ = _; kernel_rfl)

set_option maxHeartbeats 400000 in
theorem id_any (n : Int) (w : World) :
    Calls Tryd.prog 40 #[.int .i64 n] w fun e w' => e = .returned (.tuple #[.string (idOf n), .bool (wideOf n)]) ∧ Gr w w' := by
  have f1 := fun a b c d w => field_row 1 (.inl rfl) a b c d w
  have f2 := fun a b c d w => field_row 2 (.inr (.inl rfl)) a b c d w
  simp only [if_true, if_false, Nat.reduceEqDiff] at f1 f2
  go_enter Tryd.func40, Tryd.ntmps40
  go_wp2_with (go_at_call 58; refine (of_any _ _).mono ?_; rintro e w1 ⟨rfl, hb⟩)
  go_ret2
  exact ⟨rfl, by (repeat (first | with_reducible (refine Gr.setCell ?_ ?hp _; case hp => (simp; try omega)) | with_reducible refine Gr.alloc ?_ _ | with_reducible refine Gr.drew ?_ | with_reducible refine Gr.drewN ?_ _ | with_reducible assumption | with_reducible exact Gr.refl _ | with_reducible refine Gr.trans ?_ (by assumption)))⟩

end Go.Proofs.YthfipedfoofobaaDoor

namespace Go.Proofs.YthfipedfoofobaaDoor
set_option linter.unusedSimpArgs false
set_option linter.unusedVariables false
open Go.RowKit

/-- The one or the other. -/
def selI (b : Bool) (x y : Int) : Int := if b then x else y
set_option maxHeartbeats 400000 in
theorem number_any (g l : Int) (w : World) (hl : l ≤ 3) :
    Calls Tryd.prog 60 #[.int .i64 g, .int .i64 l] w fun e w' => e = .returned (.bool (between l 3 g)) ∧ w = w' := by
  have h3 : (g < l) ∨ (l ≤ g ∧ g ≤ 3) ∨ 3 < g := by omega
  unfold between
  rcases h3 with h | ⟨h, h'⟩ | h
  all_goals
    go_enter Tryd.func60, Tryd.ntmps60
    go_wp2
    all_goals (go_ret; refine ⟨congrArg (fun b => Ending.returned (.bool b)) ?_, rfl⟩; rw [Bool.eq_iff_iff]; (try simp); try omega)

set_option maxHeartbeats 400000 in
theorem lleft_any (g0 g1 g2 g3 gl gr si : Int) (w : World) :
    Calls Tryd.prog 42 #[.agg #[.int .i64 g0, .int .i64 g1, .int .i64 g2, .int .i64 g3, .int .i64 gl, .int .i64 gr, .int .i64 si]] w fun e w' => e = .returned (.int .i64 (selI (between 0 3 gl) gl 0)) ∧ Gr w w' := by
  cases hb : between 0 3 gl
  all_goals
    go_enter Tryd.func42, Tryd.ntmps42
    go_wp2_with (go_at_call 60; refine (number_any _ _ _ (by decide)).mono ?_; rintro e w1 ⟨rfl, rfl⟩)
    go_ret
    exact ⟨rfl, by (repeat (first | with_reducible (refine Gr.setCell ?_ ?hp _; case hp => (simp; try omega)) | with_reducible refine Gr.alloc ?_ _ | with_reducible refine Gr.drew ?_ | with_reducible refine Gr.drewN ?_ _ | with_reducible assumption | with_reducible exact Gr.refl _ | with_reducible refine Gr.trans ?_ (by assumption)))⟩

set_option maxHeartbeats 400000 in
theorem lright_any (g0 g1 g2 g3 gl gr si : Int) (w : World) :
    Calls Tryd.prog 43 #[.agg #[.int .i64 g0, .int .i64 g1, .int .i64 g2, .int .i64 g3, .int .i64 gl, .int .i64 gr, .int .i64 si]] w fun e w' => e = .returned (.int .i64 (selI (between 0 3 gr) gr 2)) ∧ Gr w w' := by
  cases hb : between 0 3 gr
  all_goals
    go_enter Tryd.func43, Tryd.ntmps43
    go_wp2_with (go_at_call 60; refine (number_any _ _ _ (by decide)).mono ?_; rintro e w1 ⟨rfl, rfl⟩)
    go_ret
    exact ⟨rfl, by (repeat (first | with_reducible (refine Gr.setCell ?_ ?hp _; case hp => (simp; try omega)) | with_reducible refine Gr.alloc ?_ _ | with_reducible refine Gr.drew ?_ | with_reducible refine Gr.drewN ?_ _ | with_reducible assumption | with_reducible exact Gr.refl _ | with_reducible refine Gr.trans ?_ (by assumption)))⟩

end Go.Proofs.YthfipedfoofobaaDoor

namespace Go.Proofs.YthfipedfoofobaaDoor
set_option linter.unusedSimpArgs false
set_option linter.unusedVariables false
open Go.RowKit

def uL (gl : Int) : Int := selI (between 0 3 gl) gl 0
def uR (gr : Int) : Int := selI (between 0 3 gr) gr 2
theorem lleftU (g0 g1 g2 g3 gl gr si : Int) (w : World) :
    Calls Tryd.prog 42 #[.agg #[.int .i64 g0, .int .i64 g1, .int .i64 g2, .int .i64 g3, .int .i64 gl, .int .i64 gr, .int .i64 si]] w fun e w' => e = .returned (.int .i64 (uL gl)) ∧ Gr w w' := lleft_any g0 g1 g2 g3 gl gr si w
theorem lrightU (g0 g1 g2 g3 gl gr si : Int) (w : World) :
    Calls Tryd.prog 43 #[.agg #[.int .i64 g0, .int .i64 g1, .int .i64 g2, .int .i64 g3, .int .i64 gl, .int .i64 gr, .int .i64 si]] w fun e w' => e = .returned (.int .i64 (uR gr)) ∧ Gr w w' := lright_any g0 g1 g2 g3 gl gr si w

end Go.Proofs.YthfipedfoofobaaDoor
