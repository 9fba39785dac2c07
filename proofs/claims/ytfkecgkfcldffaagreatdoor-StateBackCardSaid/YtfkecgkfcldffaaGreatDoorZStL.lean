/-
 The cursor of a state, told by the program, walked (gen_stl.py).
-/
import Derived.Test.YtfkecgkfcldffaaGreatDoorZStI
namespace Go.Proofs.YtfkecgkfcldffaaGreatDoor
set_option linter.unusedSimpArgs false
set_option linter.unusedVariables false
open Go.RowKit
set_option linter.unusedVariables false

/-- Texts, joined by semicolons. -/
def joinB (xs : List ByteArray) : ByteArray := ⟨(Lib.join (xs.map (·.data.toList)) [59]).toArray⟩
theorem join_two (x y : List UInt8) (l : List (List UInt8)) : Lib.join (x :: y :: l) [59] = x ++ 59 :: Lib.join (y :: l) [59] := by
 cases l <;> simp [Lib.join, List.intercalate, List.intersperse]
theorem join_one (x : List UInt8) : Lib.join [x] [59] = x := by simp [Lib.join, List.intercalate, List.intersperse]
theorem join_le (m : Nat) : ∀ (xs : List ByteArray), (∀ x ∈ xs, x.size ≤ m) → (Lib.join (xs.map (·.data.toList)) [59]).length ≤ (m + 1) * xs.length
 | [], _ => by simp [Lib.join]
 | [x], h => by
  have : x.data.size ≤ m := h x (by simp)
  rw [List.map_cons, List.map_nil, join_one, Array.length_toList, List.length_singleton]
  omega
 | x :: y :: l, h => by
  have h1 : x.data.size ≤ m := h x (by simp)
  have h2 := join_le m (y :: l) fun z hz => h z (by simp at hz ⊢; exact .inr hz)
  rw [List.map_cons] at h2
  rw [List.map_cons, List.map_cons, join_two, List.length_append, List.length_cons, Array.length_toList]
  have e : (m + 1) * (x :: y :: l).length = (m + 1) * (y :: l).length + (m + 1) := by rw [List.length_cons, Nat.mul_add (m + 1) (y :: l).length 1, Nat.mul_one]
  omega
theorem join_strs {w : World} {g n : Nat} {T : TypeId} {C : Array Value} (xs : List ByteArray) (m : Nat) (hb : w.heap[g]? = some (.cells C T (0, 0))) (hC : C = (xs.map Value.string).toArray) (hn : xs.length = n) (hm : m ≤ 100000) (hl : xs.length ≤ 1000) (hs : ∀ x ∈ xs, x.size ≤ m) :
  Calls Tryz.prog 22 #[sv g 0 n n, .string ⟨#[59]⟩] w fun e w' => e = .returned (.string (joinB xs)) ∧ Gr w w' := by
 subst hC; subst hn
 have hlen := join_le m xs hs
 have hmul : (m + 1) * xs.length ≤ 100001 * 1000 := Nat.mul_le_mul (by omega) hl
 have hj := Tryz.strings_Join g 0 xs.length xs ⟨#[59]⟩ w (fun j x hx => by
  have := cell_of_row hb j (.string x) (by rw [List.getElem?_toArray, List.getElem?_map, hx]; rfl)
  simpa using this) (Array.getElem?_eq_some_iff.1 hb).1 (by omega) (Nat.le_refl _) (by simp only [ByteArray.data] at *; omega)
 exact hj
set_option maxRecDepth 100000 in
theorem bits_1 (b0 : Bool) (g : Nat) (w : World) (hb : w.heap[g]? = some (.cells #[.bool b0] 4 (0, 0))) : Calls Tryz.prog 24 #[sv g 0 1 1] w fun e w' => e = .returned (.string (strOf [64 + (flagZ b0)])) ∧ Gr w w' := by
 have hf0 := flag_in b0
 refine calls_sx (n := 25) (args := [sv g 0 1 1]) Tryz.func24 rfl rfl rfl ?_
 have hs0 := SH.none w
 refine CW.seq ?_
 refine CW.region ?_
 refine SL.v (.string ⟨#[]⟩) ?_
 refine SL.nil ?_
 refine CW.seq ?_
 refine CW.region ?_
 refine SL.v (iv 0) ?_
 refine SL.nil ?_
 refine CW.seq ?_
 refine CW.seq ?_
 refine CW.region ?_
 refine SL.v (sv g 0 1 1) ?_
 refine SL.val (v := iv 1) (w' := w) rfl rfl (by kernel_rfl) ?_
 refine SL.v (iv 0) ?_
 refine SL.nil ?_
 refine CW.block ?_
 refine CW.loopN 2 ?_
 refine CR.more ?_
 refine CW.seq ?_
 refine CW.region ?_
 refine SL.v (.bool true) ?_
 refine SL.nil ?_
 refine CW.seq ?_
 refine CW.cond_true (by kernel_rfl) ?_
 refine CW.skip ?_
 refine CW.seq ?_
 refine CW.block ?_
 refine CW.seq ?_
 refine CW.region ?_
 refine SL.v (iv 0) ?_
 refine SL.v (pv g 0) ?_
 refine SL.load (g := g) (off := 0) (v := .bool b0) rfl rfl rfl (by kernel_rfl) (hs0.gr.blk hb) (by kernel_rfl) ?_
 refine SL.v (iv 0) ?_
 refine SL.v (.bool b0) ?_
 refine SL.nil ?_
 refine CW.region ?_
 refine SL.v (iv 0) ?_
 refine SL.v (.bool b0) ?_
 refine SL.call (f := 54) (args := #[.bool b0]) (w1 := w) rfl rfl (by kernel_rfl) (flag_any b0 w) ?_
 rintro x w_1 ⟨rfl, hc_2⟩
 refine ⟨_, rfl, ?_⟩
 have hs_3 := hs0.grow hc_2
 refine SL.v (iv 0) ?_
 refine SL.v (iv (IntKind.i64.wrap ((flagZ b0) * 2 ^ 0))) ?_
 refine SL.val (v := iv (flagZ b0)) (w' := w_1) rfl rfl (run_eqv (by kernel_rfl) (congrArg (Value.int .i64) (show (bits .or .i64 0 (IntKind.i64.wrap ((flagZ b0) * 2 ^ 0)) : Int) = flagZ b0 from (by cases b0 <;> rfl)))) ?_
 refine SL.v (iv (flagZ b0)) ?_
 refine SL.nil ?_
 refine CW.region ?_
 refine SL.v (iv 1) ?_
 refine SL.v (iv 1) ?_
 refine SL.nil ?_
 refine CR.fresh (fun e9 => e9 2 = .string ⟨#[]⟩ ∧ e9 3 = iv (flagZ b0) ∧ e9 6 = sv g 0 1 1 ∧ e9 7 = iv 1 ∧ e9 8 = iv 1) ⟨(by kernel_rfl), (by kernel_rfl), (by kernel_rfl), (by kernel_rfl), (by kernel_rfl)⟩ ?_
 rintro e_4 ⟨hv_6, hv_7, hv_8, hv_9, hv_10⟩
 obtain ⟨e_5, rfl⟩ : ∃ e_5, e_4 = put1 (put1 (put1 (put1 (put1 e_5 2 (.string ⟨#[]⟩)) 3 (iv (flagZ b0))) 6 (sv g 0 1 1)) 7 (iv 1)) 8 (iv 1) := ⟨e_4, (put_self hv_10).trans (congrArg (fun z => put1 z 8 (iv 1)) ((put_self hv_9).trans (congrArg (fun z => put1 z 7 (iv 1)) ((put_self hv_8).trans (congrArg (fun z => put1 z 6 (sv g 0 1 1)) ((put_self hv_7).trans (congrArg (fun z => put1 z 3 (iv (flagZ b0))) (put_self hv_6))))))))⟩
 clear hv_6 hv_7 hv_8 hv_9 hv_10
 refine CR.more ?_
 refine CW.seq ?_
 refine CW.region ?_
 refine SL.v (.bool false) ?_
 refine SL.nil ?_
 refine CW.seq ?_
 refine CW.cond_false (by kernel_rfl) ?_
 refine CW.exit ?_
 repeat with_reducible first | refine PThen.exit ?_ | refine PBlock.out rfl ?_
 with_reducible refine PBlock.here ?_
 repeat with_reducible refine PBlock.normal ?_
 refine CW.seq ?_
 refine CW.region ?_
 refine SL.v (iv (flagZ b0)) ?_
 refine SL.val (v := iv (64 + (flagZ b0))) (w' := w_1) rfl rfl (by have hw : IntKind.i64.wrap (64 + (flagZ b0)) = 64 + (flagZ b0) := IntWalk.i64_in _ (by omega); exact run_eqv (by kernel_rfl) (congrArg (fun z => Value.int .i64 z) hw)) ?_
 refine SL.val (v := .int .u8 (64 + (flagZ b0))) (w' := w_1) rfl rfl (by have hw : IntKind.u8.wrap (64 + (flagZ b0)) = 64 + (flagZ b0) := wrap_u8 (by omega) (by omega); exact run_eqv (by kernel_rfl) (congrArg (fun z => Value.int .u8 z) hw)) ?_
 refine SL.newH (mk := fun g => sv g 0 1 1) (C := #[.int .u8 (64 + (flagZ b0))]) (T := 5) hs_3 rfl rfl (by kernel_rfl) (fun g_11 w_12 hs_13 => ?_)
 have hs_13 : SH [] w w_12 [pt g_11 #[.int .u8 (64 + (flagZ b0))] 5] := hs_13
 refine SL.val (v := .string (strOf ([64 + (flagZ b0)]))) (w' := w_12) rfl rfl (run_conv rfl (by kernel_rfl) (conv_atH (l := [64 + (flagZ b0)]) (hs_13.pt_at (i := 0) rfl))) ?_
 refine SL.v (.string (strOf ([64 + (flagZ b0)]))) ?_
 refine SL.nil ?_
 refine CW.ret ?_
 repeat with_reducible first | refine PThen.ret ?_ | refine PBlock.ret ?_
 refine PRet.tmp (t := 2) (v := .string (strOf ([64 + (flagZ b0)]))) rfl rfl (by kernel_rfl) ?_
 exact ⟨rfl, hs_13.gr⟩
set_option maxRecDepth 100000 in
theorem bits_4 (b0 b1 b2 b3 : Bool) (g : Nat) (w : World) (hb : w.heap[g]? = some (.cells #[.bool b0, .bool b1, .bool b2, .bool b3] 4 (0, 0))) : Calls Tryz.prog 24 #[sv g 0 4 4] w fun e w' => e = .returned (.string (strOf [64 + (flagZ b0 + 2 * flagZ b1 + 4 * flagZ b2 + 8 * flagZ b3)])) ∧ Gr w w' := by
 have hf0 := flag_in b0
 have hf1 := flag_in b1
 have hf2 := flag_in b2
 have hf3 := flag_in b3
 refine calls_sx (n := 25) (args := [sv g 0 4 4]) Tryz.func24 rfl rfl rfl ?_
 have hs0 := SH.none w
 refine CW.seq ?_
 refine CW.region ?_
 refine SL.v (.string ⟨#[]⟩) ?_
 refine SL.nil ?_
 refine CW.seq ?_
 refine CW.region ?_
 refine SL.v (iv 0) ?_
 refine SL.nil ?_
 refine CW.seq ?_
 refine CW.seq ?_
 refine CW.region ?_
 refine SL.v (sv g 0 4 4) ?_
 refine SL.val (v := iv 4) (w' := w) rfl rfl (by kernel_rfl) ?_
 refine SL.v (iv 0) ?_
 refine SL.nil ?_
 refine CW.block ?_
 refine CW.loopN 5 ?_
 refine CR.more ?_
 refine CW.seq ?_
 refine CW.region ?_
 refine SL.v (.bool true) ?_
 refine SL.nil ?_
 refine CW.seq ?_
 refine CW.cond_true (by kernel_rfl) ?_
 refine CW.skip ?_
 refine CW.seq ?_
 refine CW.block ?_
 refine CW.seq ?_
 refine CW.region ?_
 refine SL.v (iv 0) ?_
 refine SL.v (pv g 0) ?_
 refine SL.load (g := g) (off := 0) (v := .bool b0) rfl rfl rfl (by kernel_rfl) (hs0.gr.blk hb) (by kernel_rfl) ?_
 refine SL.v (iv 0) ?_
 refine SL.v (.bool b0) ?_
 refine SL.nil ?_
 refine CW.region ?_
 refine SL.v (iv 0) ?_
 refine SL.v (.bool b0) ?_
 refine SL.call (f := 54) (args := #[.bool b0]) (w1 := w) rfl rfl (by kernel_rfl) (flag_any b0 w) ?_
 rintro x w_1 ⟨rfl, hc_2⟩
 refine ⟨_, rfl, ?_⟩
 have hs_3 := hs0.grow hc_2
 refine SL.v (iv 0) ?_
 refine SL.v (iv (IntKind.i64.wrap ((flagZ b0) * 2 ^ 0))) ?_
 refine SL.val (v := iv (flagZ b0)) (w' := w_1) rfl rfl (run_eqv (by kernel_rfl) (congrArg (Value.int .i64) (show (bits .or .i64 0 (IntKind.i64.wrap ((flagZ b0) * 2 ^ 0)) : Int) = flagZ b0 from (by cases b0 <;> rfl)))) ?_
 refine SL.v (iv (flagZ b0)) ?_
 refine SL.nil ?_
 refine CW.region ?_
 refine SL.v (iv 1) ?_
 refine SL.v (iv 1) ?_
 refine SL.nil ?_
 refine CR.fresh (fun e9 => e9 2 = .string ⟨#[]⟩ ∧ e9 3 = iv (flagZ b0) ∧ e9 6 = sv g 0 4 4 ∧ e9 7 = iv 4 ∧ e9 8 = iv 1) ⟨(by kernel_rfl), (by kernel_rfl), (by kernel_rfl), (by kernel_rfl), (by kernel_rfl)⟩ ?_
 rintro e_4 ⟨hv_6, hv_7, hv_8, hv_9, hv_10⟩
 obtain ⟨e_5, rfl⟩ : ∃ e_5, e_4 = put1 (put1 (put1 (put1 (put1 e_5 2 (.string ⟨#[]⟩)) 3 (iv (flagZ b0))) 6 (sv g 0 4 4)) 7 (iv 4)) 8 (iv 1) := ⟨e_4, (put_self hv_10).trans (congrArg (fun z => put1 z 8 (iv 1)) ((put_self hv_9).trans (congrArg (fun z => put1 z 7 (iv 4)) ((put_self hv_8).trans (congrArg (fun z => put1 z 6 (sv g 0 4 4)) ((put_self hv_7).trans (congrArg (fun z => put1 z 3 (iv (flagZ b0))) (put_self hv_6))))))))⟩
 clear hv_6 hv_7 hv_8 hv_9 hv_10
 refine CR.more ?_
 refine CW.seq ?_
 refine CW.region ?_
 refine SL.v (.bool true) ?_
 refine SL.nil ?_
 refine CW.seq ?_
 refine CW.cond_true (by kernel_rfl) ?_
 refine CW.skip ?_
 refine CW.seq ?_
 refine CW.block ?_
 refine CW.seq ?_
 refine CW.region ?_
 refine SL.v (iv 1) ?_
 refine SL.v (pv g 1) ?_
 refine SL.load (g := g) (off := 1) (v := .bool b1) rfl rfl rfl (by kernel_rfl) (hs_3.gr.blk hb) (by kernel_rfl) ?_
 refine SL.v (iv 1) ?_
 refine SL.v (.bool b1) ?_
 refine SL.nil ?_
 refine CW.region ?_
 refine SL.v (iv (flagZ b0)) ?_
 refine SL.v (.bool b1) ?_
 refine SL.call (f := 54) (args := #[.bool b1]) (w1 := w_1) rfl rfl (by kernel_rfl) (flag_any b1 w_1) ?_
 rintro x w_11 ⟨rfl, hc_12⟩
 refine ⟨_, rfl, ?_⟩
 have hs_13 := hs_3.grow hc_12
 refine SL.v (iv 1) ?_
 refine SL.v (iv (IntKind.i64.wrap ((flagZ b1) * 2 ^ 1))) ?_
 refine SL.val (v := iv (flagZ b0 + 2 * flagZ b1)) (w' := w_11) rfl rfl (run_eqv (by kernel_rfl) (congrArg (Value.int .i64) (show (bits .or .i64 (flagZ b0) (IntKind.i64.wrap ((flagZ b1) * 2 ^ 1)) : Int) = flagZ b0 + 2 * flagZ b1 from (by cases b0 <;> cases b1 <;> rfl)))) ?_
 refine SL.v (iv (flagZ b0 + 2 * flagZ b1)) ?_
 refine SL.nil ?_
 refine CW.region ?_
 refine SL.v (iv 2) ?_
 refine SL.v (iv 2) ?_
 refine SL.nil ?_
 refine CR.fresh (fun e9 => e9 2 = .string ⟨#[]⟩ ∧ e9 3 = iv (flagZ b0 + 2 * flagZ b1) ∧ e9 6 = sv g 0 4 4 ∧ e9 7 = iv 4 ∧ e9 8 = iv 2) ⟨(by kernel_rfl), (by kernel_rfl), (by kernel_rfl), (by kernel_rfl), (by kernel_rfl)⟩ ?_
 rintro e_14 ⟨hv_16, hv_17, hv_18, hv_19, hv_20⟩
 obtain ⟨e_15, rfl⟩ : ∃ e_15, e_14 = put1 (put1 (put1 (put1 (put1 e_15 2 (.string ⟨#[]⟩)) 3 (iv (flagZ b0 + 2 * flagZ b1))) 6 (sv g 0 4 4)) 7 (iv 4)) 8 (iv 2) := ⟨e_14, (put_self hv_20).trans (congrArg (fun z => put1 z 8 (iv 2)) ((put_self hv_19).trans (congrArg (fun z => put1 z 7 (iv 4)) ((put_self hv_18).trans (congrArg (fun z => put1 z 6 (sv g 0 4 4)) ((put_self hv_17).trans (congrArg (fun z => put1 z 3 (iv (flagZ b0 + 2 * flagZ b1))) (put_self hv_16))))))))⟩
 clear hv_16 hv_17 hv_18 hv_19 hv_20
 refine CR.more ?_
 refine CW.seq ?_
 refine CW.region ?_
 refine SL.v (.bool true) ?_
 refine SL.nil ?_
 refine CW.seq ?_
 refine CW.cond_true (by kernel_rfl) ?_
 refine CW.skip ?_
 refine CW.seq ?_
 refine CW.block ?_
 refine CW.seq ?_
 refine CW.region ?_
 refine SL.v (iv 2) ?_
 refine SL.v (pv g 2) ?_
 refine SL.load (g := g) (off := 2) (v := .bool b2) rfl rfl rfl (by kernel_rfl) (hs_13.gr.blk hb) (by kernel_rfl) ?_
 refine SL.v (iv 2) ?_
 refine SL.v (.bool b2) ?_
 refine SL.nil ?_
 refine CW.region ?_
 refine SL.v (iv (flagZ b0 + 2 * flagZ b1)) ?_
 refine SL.v (.bool b2) ?_
 refine SL.call (f := 54) (args := #[.bool b2]) (w1 := w_11) rfl rfl (by kernel_rfl) (flag_any b2 w_11) ?_
 rintro x w_21 ⟨rfl, hc_22⟩
 refine ⟨_, rfl, ?_⟩
 have hs_23 := hs_13.grow hc_22
 refine SL.v (iv 2) ?_
 refine SL.v (iv (IntKind.i64.wrap ((flagZ b2) * 2 ^ 2))) ?_
 refine SL.val (v := iv (flagZ b0 + 2 * flagZ b1 + 4 * flagZ b2)) (w' := w_21) rfl rfl (run_eqv (by kernel_rfl) (congrArg (Value.int .i64) (show (bits .or .i64 (flagZ b0 + 2 * flagZ b1) (IntKind.i64.wrap ((flagZ b2) * 2 ^ 2)) : Int) = flagZ b0 + 2 * flagZ b1 + 4 * flagZ b2 from (by cases b0 <;> cases b1 <;> cases b2 <;> rfl)))) ?_
 refine SL.v (iv (flagZ b0 + 2 * flagZ b1 + 4 * flagZ b2)) ?_
 refine SL.nil ?_
 refine CW.region ?_
 refine SL.v (iv 3) ?_
 refine SL.v (iv 3) ?_
 refine SL.nil ?_
 refine CR.fresh (fun e9 => e9 2 = .string ⟨#[]⟩ ∧ e9 3 = iv (flagZ b0 + 2 * flagZ b1 + 4 * flagZ b2) ∧ e9 6 = sv g 0 4 4 ∧ e9 7 = iv 4 ∧ e9 8 = iv 3) ⟨(by kernel_rfl), (by kernel_rfl), (by kernel_rfl), (by kernel_rfl), (by kernel_rfl)⟩ ?_
 rintro e_24 ⟨hv_26, hv_27, hv_28, hv_29, hv_30⟩
 obtain ⟨e_25, rfl⟩ : ∃ e_25, e_24 = put1 (put1 (put1 (put1 (put1 e_25 2 (.string ⟨#[]⟩)) 3 (iv (flagZ b0 + 2 * flagZ b1 + 4 * flagZ b2))) 6 (sv g 0 4 4)) 7 (iv 4)) 8 (iv 3) := ⟨e_24, (put_self hv_30).trans (congrArg (fun z => put1 z 8 (iv 3)) ((put_self hv_29).trans (congrArg (fun z => put1 z 7 (iv 4)) ((put_self hv_28).trans (congrArg (fun z => put1 z 6 (sv g 0 4 4)) ((put_self hv_27).trans (congrArg (fun z => put1 z 3 (iv (flagZ b0 + 2 * flagZ b1 + 4 * flagZ b2))) (put_self hv_26))))))))⟩
 clear hv_26 hv_27 hv_28 hv_29 hv_30
 refine CR.more ?_
 refine CW.seq ?_
 refine CW.region ?_
 refine SL.v (.bool true) ?_
 refine SL.nil ?_
 refine CW.seq ?_
 refine CW.cond_true (by kernel_rfl) ?_
 refine CW.skip ?_
 refine CW.seq ?_
 refine CW.block ?_
 refine CW.seq ?_
 refine CW.region ?_
 refine SL.v (iv 3) ?_
 refine SL.v (pv g 3) ?_
 refine SL.load (g := g) (off := 3) (v := .bool b3) rfl rfl rfl (by kernel_rfl) (hs_23.gr.blk hb) (by kernel_rfl) ?_
 refine SL.v (iv 3) ?_
 refine SL.v (.bool b3) ?_
 refine SL.nil ?_
 refine CW.region ?_
 refine SL.v (iv (flagZ b0 + 2 * flagZ b1 + 4 * flagZ b2)) ?_
 refine SL.v (.bool b3) ?_
 refine SL.call (f := 54) (args := #[.bool b3]) (w1 := w_21) rfl rfl (by kernel_rfl) (flag_any b3 w_21) ?_
 rintro x w_31 ⟨rfl, hc_32⟩
 refine ⟨_, rfl, ?_⟩
 have hs_33 := hs_23.grow hc_32
 refine SL.v (iv 3) ?_
 refine SL.v (iv (IntKind.i64.wrap ((flagZ b3) * 2 ^ 3))) ?_
 refine SL.val (v := iv (flagZ b0 + 2 * flagZ b1 + 4 * flagZ b2 + 8 * flagZ b3)) (w' := w_31) rfl rfl (run_eqv (by kernel_rfl) (congrArg (Value.int .i64) (show (bits .or .i64 (flagZ b0 + 2 * flagZ b1 + 4 * flagZ b2) (IntKind.i64.wrap ((flagZ b3) * 2 ^ 3)) : Int) = flagZ b0 + 2 * flagZ b1 + 4 * flagZ b2 + 8 * flagZ b3 from (by cases b0 <;> cases b1 <;> cases b2 <;> cases b3 <;> rfl)))) ?_
 refine SL.v (iv (flagZ b0 + 2 * flagZ b1 + 4 * flagZ b2 + 8 * flagZ b3)) ?_
 refine SL.nil ?_
 refine CW.region ?_
 refine SL.v (iv 4) ?_
 refine SL.v (iv 4) ?_
 refine SL.nil ?_
 refine CR.fresh (fun e9 => e9 2 = .string ⟨#[]⟩ ∧ e9 3 = iv (flagZ b0 + 2 * flagZ b1 + 4 * flagZ b2 + 8 * flagZ b3) ∧ e9 6 = sv g 0 4 4 ∧ e9 7 = iv 4 ∧ e9 8 = iv 4) ⟨(by kernel_rfl), (by kernel_rfl), (by kernel_rfl), (by kernel_rfl), (by kernel_rfl)⟩ ?_
 rintro e_34 ⟨hv_36, hv_37, hv_38, hv_39, hv_40⟩
 obtain ⟨e_35, rfl⟩ : ∃ e_35, e_34 = put1 (put1 (put1 (put1 (put1 e_35 2 (.string ⟨#[]⟩)) 3 (iv (flagZ b0 + 2 * flagZ b1 + 4 * flagZ b2 + 8 * flagZ b3))) 6 (sv g 0 4 4)) 7 (iv 4)) 8 (iv 4) := ⟨e_34, (put_self hv_40).trans (congrArg (fun z => put1 z 8 (iv 4)) ((put_self hv_39).trans (congrArg (fun z => put1 z 7 (iv 4)) ((put_self hv_38).trans (congrArg (fun z => put1 z 6 (sv g 0 4 4)) ((put_self hv_37).trans (congrArg (fun z => put1 z 3 (iv (flagZ b0 + 2 * flagZ b1 + 4 * flagZ b2 + 8 * flagZ b3))) (put_self hv_36))))))))⟩
 clear hv_36 hv_37 hv_38 hv_39 hv_40
 refine CR.more ?_
 refine CW.seq ?_
 refine CW.region ?_
 refine SL.v (.bool false) ?_
 refine SL.nil ?_
 refine CW.seq ?_
 refine CW.cond_false (by kernel_rfl) ?_
 refine CW.exit ?_
 repeat with_reducible first | refine PThen.exit ?_ | refine PBlock.out rfl ?_
 with_reducible refine PBlock.here ?_
 repeat with_reducible refine PBlock.normal ?_
 refine CW.seq ?_
 refine CW.region ?_
 refine SL.v (iv (flagZ b0 + 2 * flagZ b1 + 4 * flagZ b2 + 8 * flagZ b3)) ?_
 refine SL.val (v := iv (64 + (flagZ b0 + 2 * flagZ b1 + 4 * flagZ b2 + 8 * flagZ b3))) (w' := w_31) rfl rfl (by have hw : IntKind.i64.wrap (64 + (flagZ b0 + 2 * flagZ b1 + 4 * flagZ b2 + 8 * flagZ b3)) = 64 + (flagZ b0 + 2 * flagZ b1 + 4 * flagZ b2 + 8 * flagZ b3) := IntWalk.i64_in _ (by omega); exact run_eqv (by kernel_rfl) (congrArg (fun z => Value.int .i64 z) hw)) ?_
 refine SL.val (v := .int .u8 (64 + (flagZ b0 + 2 * flagZ b1 + 4 * flagZ b2 + 8 * flagZ b3))) (w' := w_31) rfl rfl (by have hw : IntKind.u8.wrap (64 + (flagZ b0 + 2 * flagZ b1 + 4 * flagZ b2 + 8 * flagZ b3)) = 64 + (flagZ b0 + 2 * flagZ b1 + 4 * flagZ b2 + 8 * flagZ b3) := wrap_u8 (by omega) (by omega); exact run_eqv (by kernel_rfl) (congrArg (fun z => Value.int .u8 z) hw)) ?_
 refine SL.newH (mk := fun g => sv g 0 1 1) (C := #[.int .u8 (64 + (flagZ b0 + 2 * flagZ b1 + 4 * flagZ b2 + 8 * flagZ b3))]) (T := 5) hs_33 rfl rfl (by kernel_rfl) (fun g_41 w_42 hs_43 => ?_)
 have hs_43 : SH [] w w_42 [pt g_41 #[.int .u8 (64 + (flagZ b0 + 2 * flagZ b1 + 4 * flagZ b2 + 8 * flagZ b3))] 5] := hs_43
 refine SL.val (v := .string (strOf ([64 + (flagZ b0 + 2 * flagZ b1 + 4 * flagZ b2 + 8 * flagZ b3)]))) (w' := w_42) rfl rfl (run_conv rfl (by kernel_rfl) (conv_atH (l := [64 + (flagZ b0 + 2 * flagZ b1 + 4 * flagZ b2 + 8 * flagZ b3)]) (hs_43.pt_at (i := 0) rfl))) ?_
 refine SL.v (.string (strOf ([64 + (flagZ b0 + 2 * flagZ b1 + 4 * flagZ b2 + 8 * flagZ b3)]))) ?_
 refine SL.nil ?_
 refine CW.ret ?_
 repeat with_reducible first | refine PThen.ret ?_ | refine PBlock.ret ?_
 refine PRet.tmp (t := 2) (v := .string (strOf ([64 + (flagZ b0 + 2 * flagZ b1 + 4 * flagZ b2 + 8 * flagZ b3)]))) rfl rfl (by kernel_rfl) ?_
 exact ⟨rfl, hs_43.gr⟩
theorem ids_sz (g : Nat → Int) : (⟨(repIds g 4).toArray⟩ : ByteArray).size ≤ 8 := by
 have := repIds_len g 4
 simp only [ByteArray.size, List.size_toArray]; omega
/-- The cursor of a state, as a text. -/
def curS (c : Cor) : ByteArray := joinB [strOf (fmtR [c.clean.row + 1, c.clean.col + 1, c.clean.page + 1]),
 strOf [64 + c.clean.rend],
 strOf [64 + (flagZ c.clean.kept)],
 strOf [64 + (flagZ c.clean.origin + 2 * flagZ (c.clean.sg == 2) + 4 * flagZ (c.clean.sg == 3) + 8 * flagZ c.clean.wrap)],
 strOf (fmtR [uL c.clean.gl, uR c.clean.gr]),
 strOf [repSize (gNo c.clean.g0 c.clean.g1 c.clean.g2 c.clean.g3) 4],
 ⟨(repIds (gNo c.clean.g0 c.clean.g1 c.clean.g2 c.clean.g3) 4).toArray⟩]
theorem clean_pos {c : Cor} (hok : c.Ok) : (0 ≤ c.clean.page ∧ c.clean.page < 16) ∧ (0 ≤ c.clean.row ∧ c.clean.row < 9223372036854775807) ∧ (0 ≤ c.clean.col ∧ c.clean.col < 9223372036854775807) := by
 have h16 := clipz_in c.pages 1 16 (by decide)
 have hp := clipz_in c.page 0 (clipZ c.pages 1 16 - 1) (by omega)
 have hb := hok.p.2.2.1
 have hr := hok.p.2.2.2
 refine ⟨?_, ?_⟩
 ·show 0 ≤ clipZ c.page 0 (clipZ c.pages 1 16 - 1) ∧ clipZ c.page 0 (clipZ c.pages 1 16 - 1) < 16; omega
 ·have e : emptyZ 0 0 (max 0 (max 1 c.pb)) (max 0 (max 1 c.pr)) = false := by
   unfold emptyZ
   have h1 : ¬ max 0 (max 1 c.pb) ≤ 0 := by omega
   have h2 : ¬ max 0 (max 1 c.pr) ≤ 0 := by omega
   simp [h1, h2]
  have h1 : c.clean.row = clipZ c.row 0 (max 0 (max 1 c.pb) - 1) := by
   show (clampZ 0 0 (max 0 (max 1 c.pb)) (max 0 (max 1 c.pr)) c.row c.col).1 = _
   unfold clampZ; rw [if_neg (by rw [e]; decide)]
  have h2 : c.clean.col = clipZ c.col 0 (max 0 (max 1 c.pr) - 1) := by
   show (clampZ 0 0 (max 0 (max 1 c.pb)) (max 0 (max 1 c.pr)) c.row c.col).2 = _
   unfold clampZ; rw [if_neg (by rw [e]; decide)]
  rw [h1, h2]
  unfold clipZ I6 at *
  omega
abbrev qStL_0 (c : Cor) : Array Value := #[iv c.clean.row, iv c.clean.col, .int .u8 c.clean.rend, .bool c.clean.kept, .bool c.clean.wrap, .bool c.clean.origin, iv c.clean.g0, iv c.clean.g1, iv c.clean.g2, iv c.clean.g3, iv c.clean.gl, iv c.clean.gr, iv c.clean.sg]
set_option maxRecDepth 100000 in
set_option maxHeartbeats 4000000 in
theorem cur_any (c : Cor) (w : World) (hok : c.Ok) (hT : tabT w) : Calls Tryz.prog 8 #[.agg (cvA c)] w fun e w' => e = .returned (.string (curS c)) ∧ Gr w w' := by
 have hcm := hok.clean.modes
 have hcl := clean_nice hok
 have hcp := clean_pos hok
 refine calls_sx (n := 66) (args := [.agg (cvA c)]) Tryz.func8 rfl rfl rfl ?_
 have hs0 := SH.none w
 refine CW.seq ?_
 refine CW.region ?_
 refine SL.newH (mk := fun g => pv g 0) (C := (cvA c)) (T := 45) hs0 rfl rfl (by kernel_rfl) (fun g_1 w_2 hs_3 => ?_)
 have hs_3 : SH [] w w_2 [pt g_1 (cvA c) 45] := hs_3
 refine SL.v (.string ⟨#[]⟩) ?_
 refine SL.nil ?_
 refine CW.seq ?_
 refine CW.region ?_
 refine SL.load (g := g_1) (off := 0) (v := .agg (cvA c)) rfl rfl rfl (by kernel_rfl) (hs_3.pt_at (i := 0) rfl) (by kernel_rfl) ?_
 refine SL.call (f := 20) (args := #[.agg (cvA c)]) (w1 := w_2) rfl rfl (by kernel_rfl) (clean_any c w_2 hok) ?_
 rintro x w_4 ⟨rfl, hc_5⟩
 refine ⟨_, rfl, ?_⟩
 have hs_6 := hs_3.grow hc_5
 refine SL.storeH (i := 0) (g := g_1) (off := 0) (v := .agg (cvA c.clean)) (L' := [pt g_1 (cvA c.clean) 45]) hs_6 rfl rfl rfl (by kernel_rfl) (by kernel_rfl) rfl (by kernel_rfl) (by kernel_rfl) rfl (by kernel_rfl) rfl (fun w_7 hs_8 => ?_)
 refine SL.nil ?_
 refine CW.seq ?_
 refine CW.region ?_
 refine SL.v (pv g_1 0) ?_
 refine SL.load (g := g_1) (off := 0) (v := .agg (qStL_0 c)) rfl rfl rfl (by kernel_rfl) (hs_8.pt_at (i := 0) rfl) (by kernel_rfl) ?_
 refine SL.newH (mk := fun g => pv g 0) (C := #[iv 0, iv 0, .int .u8 0, .bool false, .bool false, .bool false, iv 0, iv 0, iv 0, iv 0, iv 0, iv 0, iv 0]) (T := 40) hs_8 rfl rfl (by kernel_rfl) (fun g_9 w_10 hs_11 => ?_)
 have hs_11 : SH [] w w_10 [pt g_1 (cvA c.clean) 45, pt g_9 #[iv 0, iv 0, .int .u8 0, .bool false, .bool false, .bool false, iv 0, iv 0, iv 0, iv 0, iv 0, iv 0, iv 0] 40] := hs_11
 refine SL.storeH (i := 1) (g := g_9) (off := 0) (v := .agg (qStL_0 c)) (L' := [pt g_1 (cvA c.clean) 45, pt g_9 (qStL_0 c) 40]) hs_11 rfl rfl rfl (by kernel_rfl) (by kernel_rfl) rfl (by kernel_rfl) (by kernel_rfl) rfl (by kernel_rfl) rfl (fun w_12 hs_13 => ?_)
 refine SL.nil ?_
 refine CW.seq ?_
 refine CW.region ?_
 refine SL.v (pv g_9 6) ?_
 refine SL.load (g := g_9) (off := 6) (v := .agg #[iv c.clean.g0, iv c.clean.g1, iv c.clean.g2, iv c.clean.g3, iv c.clean.gl, iv c.clean.gr, iv c.clean.sg]) rfl rfl rfl (by kernel_rfl) (hs_13.pt_at (i := 1) rfl) (by kernel_rfl) ?_
 refine SL.call (f := 21) (args := #[.agg #[iv c.clean.g0, iv c.clean.g1, iv c.clean.g2, iv c.clean.g3, iv c.clean.gl, iv c.clean.gr, iv c.clean.sg]]) (w1 := w_12) rfl rfl (by kernel_rfl) (report_any c.clean.g0 c.clean.g1 c.clean.g2 c.clean.g3 c.clean.gl c.clean.gr c.clean.sg w_12) ?_
 rintro x w_14 ⟨rfl, hc_15⟩
 refine ⟨_, rfl, ?_⟩
 have hs_16 := hs_13.grow hc_15
 refine SL.v (.tuple #[iv (uL c.clean.gl), iv (uR c.clean.gr), .int .u8 (repSize (gNo c.clean.g0 c.clean.g1 c.clean.g2 c.clean.g3) 4), .string ⟨(repIds (gNo c.clean.g0 c.clean.g1 c.clean.g2 c.clean.g3) 4).toArray⟩]) ?_
 refine SL.v (iv (uL c.clean.gl)) ?_
 refine SL.v (iv (uR c.clean.gr)) ?_
 refine SL.v (.int .u8 (repSize (gNo c.clean.g0 c.clean.g1 c.clean.g2 c.clean.g3) 4)) ?_
 refine SL.v (.string ⟨(repIds (gNo c.clean.g0 c.clean.g1 c.clean.g2 c.clean.g3) 4).toArray⟩) ?_
 refine SL.v (iv (uL c.clean.gl)) ?_
 refine SL.v (iv (uR c.clean.gr)) ?_
 refine SL.v (.int .u8 (repSize (gNo c.clean.g0 c.clean.g1 c.clean.g2 c.clean.g3) 4)) ?_
 refine SL.v (.string ⟨(repIds (gNo c.clean.g0 c.clean.g1 c.clean.g2 c.clean.g3) 4).toArray⟩) ?_
 refine SL.nil ?_
 refine CW.seq ?_
 have HGR : GrL [fun v _ => v = pv g_9 0, fun v _ => v = pv g_9 0, fun v _ => v = iv c.clean.row, fun v _ => v = iv (c.clean.row + 1), fun v _ => v = pv g_9 0, fun v _ => v = pv g_9 1, fun v _ => v = iv c.clean.col, fun v _ => v = iv (c.clean.col + 1), fun v _ => v = pv g_1 27, fun v _ => v = iv c.clean.page, fun v _ => v = iv (c.clean.page + 1), NewB w_14 (fun g => sv g 0 3 3) (.cells #[iv (c.clean.row + 1), iv (c.clean.col + 1), iv (c.clean.page + 1)] 3 (0, 0)), fun v _ => v = .string (strOf (fmtR [c.clean.row + 1, c.clean.col + 1, c.clean.page + 1])), fun v _ => v = pv g_9 2, fun v _ => v = .int .u8 c.clean.rend, fun v _ => v = .int .u8 (64 + c.clean.rend), NewB w_14 (fun g => sv g 0 1 1) (.cells #[.int .u8 (64 + c.clean.rend)] 5 (0, 0)), fun v _ => v = .string (strOf ([64 + c.clean.rend])), fun v _ => v = pv g_9 3, fun v _ => v = .bool c.clean.kept, NewB w_14 (fun g => sv g 0 1 1) (.cells #[.bool c.clean.kept] 4 (0, 0)), fun v _ => v = .string (strOf [64 + (flagZ c.clean.kept)]), fun v _ => v = pv g_9 5, fun v _ => v = .bool c.clean.origin, fun v _ => v = pv g_9 6, fun v _ => v = pv g_9 12, fun v _ => v = iv c.clean.sg, fun v _ => v = .bool (c.clean.sg == 2), fun v _ => v = pv g_9 6, fun v _ => v = pv g_9 12, fun v _ => v = iv c.clean.sg, fun v _ => v = .bool (c.clean.sg == 3), fun v _ => v = pv g_9 4, fun v _ => v = .bool c.clean.wrap, NewB w_14 (fun g => sv g 0 4 4) (.cells #[.bool c.clean.origin, .bool (c.clean.sg == 2), .bool (c.clean.sg == 3), .bool c.clean.wrap] 4 (0, 0)), fun v _ => v = .string (strOf [64 + (flagZ c.clean.origin + 2 * flagZ (c.clean.sg == 2) + 4 * flagZ (c.clean.sg == 3) + 8 * flagZ c.clean.wrap)]), fun v _ => v = iv (uL c.clean.gl), fun v _ => v = iv (uR c.clean.gr), NewB w_14 (fun g => sv g 0 2 2) (.cells #[iv (uL c.clean.gl), iv (uR c.clean.gr)] 3 (0, 0)), fun v _ => v = .string (strOf (fmtR [uL c.clean.gl, uR c.clean.gr])), fun v _ => v = .int .u8 (repSize (gNo c.clean.g0 c.clean.g1 c.clean.g2 c.clean.g3) 4), NewB w_14 (fun g => sv g 0 1 1) (.cells #[.int .u8 (repSize (gNo c.clean.g0 c.clean.g1 c.clean.g2 c.clean.g3) 4)] 5 (0, 0)), fun v _ => v = .string (strOf ([repSize (gNo c.clean.g0 c.clean.g1 c.clean.g2 c.clean.g3) 4])), fun v _ => v = .string ⟨(repIds (gNo c.clean.g0 c.clean.g1 c.clean.g2 c.clean.g3) 4).toArray⟩] := ⟨fun _ _ _ _ h => h, ⟨fun _ _ _ _ h => h, ⟨fun _ _ _ _ h => h, ⟨fun _ _ _ _ h => h, ⟨fun _ _ _ _ h => h, ⟨fun _ _ _ _ h => h, ⟨fun _ _ _ _ h => h, ⟨fun _ _ _ _ h => h, ⟨fun _ _ _ _ h => h, ⟨fun _ _ _ _ h => h, ⟨fun _ _ _ _ h => h, ⟨fun _ _ _ hg h => NewB.gr hg h, ⟨fun _ _ _ _ h => h, ⟨fun _ _ _ _ h => h, ⟨fun _ _ _ _ h => h, ⟨fun _ _ _ _ h => h, ⟨fun _ _ _ hg h => NewB.gr hg h, ⟨fun _ _ _ _ h => h, ⟨fun _ _ _ _ h => h, ⟨fun _ _ _ _ h => h, ⟨fun _ _ _ hg h => NewB.gr hg h, ⟨fun _ _ _ _ h => h, ⟨fun _ _ _ _ h => h, ⟨fun _ _ _ _ h => h, ⟨fun _ _ _ _ h => h, ⟨fun _ _ _ _ h => h, ⟨fun _ _ _ _ h => h, ⟨fun _ _ _ _ h => h, ⟨fun _ _ _ _ h => h, ⟨fun _ _ _ _ h => h, ⟨fun _ _ _ _ h => h, ⟨fun _ _ _ _ h => h, ⟨fun _ _ _ _ h => h, ⟨fun _ _ _ _ h => h, ⟨fun _ _ _ hg h => NewB.gr hg h, ⟨fun _ _ _ _ h => h, ⟨fun _ _ _ _ h => h, ⟨fun _ _ _ _ h => h, ⟨fun _ _ _ hg h => NewB.gr hg h, ⟨fun _ _ _ _ h => h, ⟨fun _ _ _ _ h => h, ⟨fun _ _ _ hg h => NewB.gr hg h, ⟨fun _ _ _ _ h => h, ⟨fun _ _ _ _ h => h, trivial⟩⟩⟩⟩⟩⟩⟩⟩⟩⟩⟩⟩⟩⟩⟩⟩⟩⟩⟩⟩⟩⟩⟩⟩⟩⟩⟩⟩⟩⟩⟩⟩⟩⟩⟩⟩⟩⟩⟩⟩⟩⟩⟩⟩
 refine CW.draw 44 (FW [fun v _ => v = pv g_9 0, fun v _ => v = pv g_9 0, fun v _ => v = iv c.clean.row, fun v _ => v = iv (c.clean.row + 1), fun v _ => v = pv g_9 0, fun v _ => v = pv g_9 1, fun v _ => v = iv c.clean.col, fun v _ => v = iv (c.clean.col + 1), fun v _ => v = pv g_1 27, fun v _ => v = iv c.clean.page, fun v _ => v = iv (c.clean.page + 1), NewB w_14 (fun g => sv g 0 3 3) (.cells #[iv (c.clean.row + 1), iv (c.clean.col + 1), iv (c.clean.page + 1)] 3 (0, 0)), fun v _ => v = .string (strOf (fmtR [c.clean.row + 1, c.clean.col + 1, c.clean.page + 1])), fun v _ => v = pv g_9 2, fun v _ => v = .int .u8 c.clean.rend, fun v _ => v = .int .u8 (64 + c.clean.rend), NewB w_14 (fun g => sv g 0 1 1) (.cells #[.int .u8 (64 + c.clean.rend)] 5 (0, 0)), fun v _ => v = .string (strOf ([64 + c.clean.rend])), fun v _ => v = pv g_9 3, fun v _ => v = .bool c.clean.kept, NewB w_14 (fun g => sv g 0 1 1) (.cells #[.bool c.clean.kept] 4 (0, 0)), fun v _ => v = .string (strOf [64 + (flagZ c.clean.kept)]), fun v _ => v = pv g_9 5, fun v _ => v = .bool c.clean.origin, fun v _ => v = pv g_9 6, fun v _ => v = pv g_9 12, fun v _ => v = iv c.clean.sg, fun v _ => v = .bool (c.clean.sg == 2), fun v _ => v = pv g_9 6, fun v _ => v = pv g_9 12, fun v _ => v = iv c.clean.sg, fun v _ => v = .bool (c.clean.sg == 3), fun v _ => v = pv g_9 4, fun v _ => v = .bool c.clean.wrap, NewB w_14 (fun g => sv g 0 4 4) (.cells #[.bool c.clean.origin, .bool (c.clean.sg == 2), .bool (c.clean.sg == 3), .bool c.clean.wrap] 4 (0, 0)), fun v _ => v = .string (strOf [64 + (flagZ c.clean.origin + 2 * flagZ (c.clean.sg == 2) + 4 * flagZ (c.clean.sg == 3) + 8 * flagZ c.clean.wrap)]), fun v _ => v = iv (uL c.clean.gl), fun v _ => v = iv (uR c.clean.gr), NewB w_14 (fun g => sv g 0 2 2) (.cells #[iv (uL c.clean.gl), iv (uR c.clean.gr)] 3 (0, 0)), fun v _ => v = .string (strOf (fmtR [uL c.clean.gl, uR c.clean.gr])), fun v _ => v = .int .u8 (repSize (gNo c.clean.g0 c.clean.g1 c.clean.g2 c.clean.g3) 4), NewB w_14 (fun g => sv g 0 1 1) (.cells #[.int .u8 (repSize (gNo c.clean.g0 c.clean.g1 c.clean.g2 c.clean.g3) 4)] 5 (0, 0)), fun v _ => v = .string (strOf ([repSize (gNo c.clean.g0 c.clean.g1 c.clean.g2 c.clean.g3) 4])), fun v _ => v = .string ⟨(repIds (gNo c.clean.g0 c.clean.g1 c.clean.g2 c.clean.g3) 4).toArray⟩]) (fun W => Gr w_14 W) (by kernel_rfl) (by kernel_rfl) (by kernel_rfl) (by kernel_rfl) (by kernel_rfl) (Gr.refl _).drew ?_ ?_
 ·refine ⟨?_, ⟨?_, ⟨?_, ⟨?_, ⟨?_, ⟨?_, ⟨?_, ⟨?_, ⟨?_, ⟨?_, ⟨?_, ⟨?_, ⟨?_, ⟨?_, ⟨?_, ⟨?_, ⟨?_, ⟨?_, ⟨?_, ⟨?_, ⟨?_, ⟨?_, ⟨?_, ⟨?_, ⟨?_, ⟨?_, ⟨?_, ⟨?_, ⟨?_, ⟨?_, ⟨?_, ⟨?_, ⟨?_, ⟨?_, ⟨?_, ⟨?_, ⟨?_, ⟨?_, ⟨?_, ⟨?_, ⟨?_, ⟨?_, ⟨?_, ⟨?_, trivial⟩⟩⟩⟩⟩⟩⟩⟩⟩⟩⟩⟩⟩⟩⟩⟩⟩⟩⟩⟩⟩⟩⟩⟩⟩⟩⟩⟩⟩⟩⟩⟩⟩⟩⟩⟩⟩⟩⟩⟩⟩⟩⟩⟩
  ·intro L ys W hB hF hP K hK
   show OpE _ _ _ W K
   exact OpE.val (pv g_9 0) W (by kernel_rfl) (hK _ W hB rfl (fun _ _ h => h))
  ·intro L ys W hB hF hP K hK
   show OpE _ _ _ W K
   exact OpE.known (j := 0) (v := pv g_9 0) (hF 0 (hP.1 rfl)) (OpE.val (pv g_9 0) W (by kernel_rfl) (hK _ W hB rfl (fun _ _ h => h)))
  ·intro L ys W hB hF hP K hK
   show OpE _ _ _ W K
   exact OpE.known (j := 1) (v := pv g_9 0) (hF 1 (hP.1 rfl)) (OpE.load (g := g_9) (off := 0) (v := iv c.clean.row) rfl (by kernel_rfl) ((hs_16.grow hB).pt_at (i := 1) rfl) (by kernel_rfl) (hK _ W hB rfl (fun _ _ h => h)))
  ·intro L ys W hB hF hP K hK
   show OpE _ _ _ W K
   exact OpE.known (j := 2) (v := iv c.clean.row) (hF 2 (hP.1 rfl)) (OpE.val (iv (c.clean.row + 1)) W (by have hw : IntKind.i64.wrap (c.clean.row + 1) = c.clean.row + 1 := IntWalk.i64_in _ (by omega); exact run_eqv (by kernel_rfl) (congrArg (fun z => Value.int .i64 z) hw)) (hK _ W hB rfl (fun _ _ h => h)))
  ·intro L ys W hB hF hP K hK
   show OpE _ _ _ W K
   exact OpE.val (pv g_9 0) W (by kernel_rfl) (hK _ W hB rfl (fun _ _ h => h))
  ·intro L ys W hB hF hP K hK
   show OpE _ _ _ W K
   exact OpE.known (j := 4) (v := pv g_9 0) (hF 4 (hP.1 rfl)) (OpE.val (pv g_9 1) W (by kernel_rfl) (hK _ W hB rfl (fun _ _ h => h)))
  ·intro L ys W hB hF hP K hK
   show OpE _ _ _ W K
   exact OpE.known (j := 5) (v := pv g_9 1) (hF 5 (hP.1 rfl)) (OpE.load (g := g_9) (off := 1) (v := iv c.clean.col) rfl (by kernel_rfl) ((hs_16.grow hB).pt_at (i := 1) rfl) (by kernel_rfl) (hK _ W hB rfl (fun _ _ h => h)))
  ·intro L ys W hB hF hP K hK
   show OpE _ _ _ W K
   exact OpE.known (j := 6) (v := iv c.clean.col) (hF 6 (hP.1 rfl)) (OpE.val (iv (c.clean.col + 1)) W (by have hw : IntKind.i64.wrap (c.clean.col + 1) = c.clean.col + 1 := IntWalk.i64_in _ (by omega); exact run_eqv (by kernel_rfl) (congrArg (fun z => Value.int .i64 z) hw)) (hK _ W hB rfl (fun _ _ h => h)))
  ·intro L ys W hB hF hP K hK
   show OpE _ _ _ W K
   exact OpE.val (pv g_1 27) W (by kernel_rfl) (hK _ W hB rfl (fun _ _ h => h))
  ·intro L ys W hB hF hP K hK
   show OpE _ _ _ W K
   exact OpE.known (j := 8) (v := pv g_1 27) (hF 8 (hP.1 rfl)) (OpE.load (g := g_1) (off := 27) (v := iv c.clean.page) rfl (by kernel_rfl) ((hs_16.grow hB).pt_at (i := 0) rfl) (by kernel_rfl) (hK _ W hB rfl (fun _ _ h => h)))
  ·intro L ys W hB hF hP K hK
   show OpE _ _ _ W K
   exact OpE.known (j := 9) (v := iv c.clean.page) (hF 9 (hP.1 rfl)) (OpE.val (iv (c.clean.page + 1)) W (by have hw : IntKind.i64.wrap (c.clean.page + 1) = c.clean.page + 1 := IntWalk.i64_in _ (by omega); exact run_eqv (by kernel_rfl) (congrArg (fun z => Value.int .i64 z) hw)) (hK _ W hB rfl (fun _ _ h => h)))
  ·intro L ys W hB hF hP K hK
   show OpE _ _ _ W K
   exact OpE.known (j := 3) (v := iv (c.clean.row + 1)) (hF 3 (hP.1 rfl)) (OpE.known (j := 7) (v := iv (c.clean.col + 1)) (hF 7 (hP.2.1 rfl)) (OpE.known (j := 10) (v := iv (c.clean.page + 1)) (hF 10 (hP.2.2.1 rfl)) (OpE.new (mk := fun g => sv g 0 3 3) (C := #[iv (c.clean.row + 1), iv (c.clean.col + 1), iv (c.clean.page + 1)]) (T := 3) (by kernel_rfl) (hK _ _ (hB.alloc _) ⟨W.heap.size, rfl, heap_alloc_new _ _, hB.size⟩ (fun _ _ h => FW.gr HGR ((Gr.refl W).alloc _) h)))))
  ·intro L ys W hB hF hP K hK
   obtain ⟨gq11, hvq11, hbq11, hgq11⟩ := hF 11 (hP.1 rfl)
   show OpE _ _ _ W K
   exact OpE.known (j := 11) (v := sv gq11 0 3 3) hvq11 (OpE.call 23 #[sv gq11 0 3 3] W _ (by kernel_rfl) (fmt_walk (l := [c.clean.row + 1, c.clean.col + 1, c.clean.page + 1]) (rd_new hbq11 rfl rfl) (Nat.le_refl _) (hT.gr (hs_16.grow hB).gr)) (fun x w' hx => by obtain ⟨rfl, hg⟩ := hx; exact ⟨_, rfl, hK _ w' (hB.trans hg) rfl (fun _ _ h => FW.gr HGR hg h)⟩))
  ·intro L ys W hB hF hP K hK
   show OpE _ _ _ W K
   exact OpE.val (pv g_9 2) W (by kernel_rfl) (hK _ W hB rfl (fun _ _ h => h))
  ·intro L ys W hB hF hP K hK
   show OpE _ _ _ W K
   exact OpE.known (j := 13) (v := pv g_9 2) (hF 13 (hP.1 rfl)) (OpE.load (g := g_9) (off := 2) (v := .int .u8 c.clean.rend) rfl (by kernel_rfl) ((hs_16.grow hB).pt_at (i := 1) rfl) (by kernel_rfl) (hK _ W hB rfl (fun _ _ h => h)))
  ·intro L ys W hB hF hP K hK
   show OpE _ _ _ W K
   exact OpE.known (j := 14) (v := .int .u8 c.clean.rend) (hF 14 (hP.1 rfl)) (OpE.val (.int .u8 (64 + c.clean.rend)) W (by have hw : IntKind.u8.wrap (64 + c.clean.rend) = 64 + c.clean.rend := wrap_u8 (by omega) (by omega); exact run_eqv (by kernel_rfl) (congrArg (fun z => Value.int .u8 z) hw)) (hK _ W hB rfl (fun _ _ h => h)))
  ·intro L ys W hB hF hP K hK
   show OpE _ _ _ W K
   exact OpE.known (j := 15) (v := .int .u8 (64 + c.clean.rend)) (hF 15 (hP.1 rfl)) (OpE.new (mk := fun g => sv g 0 1 1) (C := #[.int .u8 (64 + c.clean.rend)]) (T := 5) (by kernel_rfl) (hK _ _ (hB.alloc _) ⟨W.heap.size, rfl, heap_alloc_new _ _, hB.size⟩ (fun _ _ h => FW.gr HGR ((Gr.refl W).alloc _) h)))
  ·intro L ys W hB hF hP K hK
   obtain ⟨gq16, hvq16, hbq16, hgq16⟩ := hF 16 (hP.1 rfl)
   show OpE _ _ _ W K
   exact OpE.known (j := 16) (v := sv gq16 0 1 1) hvq16 (OpE.val (.string (strOf ([64 + c.clean.rend]))) W (run_conv rfl (by kernel_rfl) (conv_atH (l := [64 + c.clean.rend]) hbq16)) (hK _ W hB rfl (fun _ _ h => h)))
  ·intro L ys W hB hF hP K hK
   show OpE _ _ _ W K
   exact OpE.val (pv g_9 3) W (by kernel_rfl) (hK _ W hB rfl (fun _ _ h => h))
  ·intro L ys W hB hF hP K hK
   show OpE _ _ _ W K
   exact OpE.known (j := 18) (v := pv g_9 3) (hF 18 (hP.1 rfl)) (OpE.load (g := g_9) (off := 3) (v := .bool c.clean.kept) rfl (by kernel_rfl) ((hs_16.grow hB).pt_at (i := 1) rfl) (by kernel_rfl) (hK _ W hB rfl (fun _ _ h => h)))
  ·intro L ys W hB hF hP K hK
   show OpE _ _ _ W K
   exact OpE.known (j := 19) (v := .bool c.clean.kept) (hF 19 (hP.1 rfl)) (OpE.new (mk := fun g => sv g 0 1 1) (C := #[.bool c.clean.kept]) (T := 4) (by kernel_rfl) (hK _ _ (hB.alloc _) ⟨W.heap.size, rfl, heap_alloc_new _ _, hB.size⟩ (fun _ _ h => FW.gr HGR ((Gr.refl W).alloc _) h)))
  ·intro L ys W hB hF hP K hK
   obtain ⟨gq20, hvq20, hbq20, hgq20⟩ := hF 20 (hP.1 rfl)
   show OpE _ _ _ W K
   exact OpE.known (j := 20) (v := sv gq20 0 1 1) hvq20 (OpE.call 24 #[sv gq20 0 1 1] W _ (by kernel_rfl) (bits_1 c.clean.kept gq20 W hbq20) (fun x w' hx => by obtain ⟨rfl, hg⟩ := hx; exact ⟨_, rfl, hK _ w' (hB.trans hg) rfl (fun _ _ h => FW.gr HGR hg h)⟩))
  ·intro L ys W hB hF hP K hK
   show OpE _ _ _ W K
   exact OpE.val (pv g_9 5) W (by kernel_rfl) (hK _ W hB rfl (fun _ _ h => h))
  ·intro L ys W hB hF hP K hK
   show OpE _ _ _ W K
   exact OpE.known (j := 22) (v := pv g_9 5) (hF 22 (hP.1 rfl)) (OpE.load (g := g_9) (off := 5) (v := .bool c.clean.origin) rfl (by kernel_rfl) ((hs_16.grow hB).pt_at (i := 1) rfl) (by kernel_rfl) (hK _ W hB rfl (fun _ _ h => h)))
  ·intro L ys W hB hF hP K hK
   show OpE _ _ _ W K
   exact OpE.val (pv g_9 6) W (by kernel_rfl) (hK _ W hB rfl (fun _ _ h => h))
  ·intro L ys W hB hF hP K hK
   show OpE _ _ _ W K
   exact OpE.known (j := 24) (v := pv g_9 6) (hF 24 (hP.1 rfl)) (OpE.val (pv g_9 12) W (by kernel_rfl) (hK _ W hB rfl (fun _ _ h => h)))
  ·intro L ys W hB hF hP K hK
   show OpE _ _ _ W K
   exact OpE.known (j := 25) (v := pv g_9 12) (hF 25 (hP.1 rfl)) (OpE.load (g := g_9) (off := 12) (v := iv c.clean.sg) rfl (by kernel_rfl) ((hs_16.grow hB).pt_at (i := 1) rfl) (by kernel_rfl) (hK _ W hB rfl (fun _ _ h => h)))
  ·intro L ys W hB hF hP K hK
   show OpE _ _ _ W K
   exact OpE.known (j := 26) (v := iv c.clean.sg) (hF 26 (hP.1 rfl)) (OpE.val (.bool (c.clean.sg == 2)) W (by kernel_rfl) (hK _ W hB rfl (fun _ _ h => h)))
  ·intro L ys W hB hF hP K hK
   show OpE _ _ _ W K
   exact OpE.val (pv g_9 6) W (by kernel_rfl) (hK _ W hB rfl (fun _ _ h => h))
  ·intro L ys W hB hF hP K hK
   show OpE _ _ _ W K
   exact OpE.known (j := 28) (v := pv g_9 6) (hF 28 (hP.1 rfl)) (OpE.val (pv g_9 12) W (by kernel_rfl) (hK _ W hB rfl (fun _ _ h => h)))
  ·intro L ys W hB hF hP K hK
   show OpE _ _ _ W K
   exact OpE.known (j := 29) (v := pv g_9 12) (hF 29 (hP.1 rfl)) (OpE.load (g := g_9) (off := 12) (v := iv c.clean.sg) rfl (by kernel_rfl) ((hs_16.grow hB).pt_at (i := 1) rfl) (by kernel_rfl) (hK _ W hB rfl (fun _ _ h => h)))
  ·intro L ys W hB hF hP K hK
   show OpE _ _ _ W K
   exact OpE.known (j := 30) (v := iv c.clean.sg) (hF 30 (hP.1 rfl)) (OpE.val (.bool (c.clean.sg == 3)) W (by kernel_rfl) (hK _ W hB rfl (fun _ _ h => h)))
  ·intro L ys W hB hF hP K hK
   show OpE _ _ _ W K
   exact OpE.val (pv g_9 4) W (by kernel_rfl) (hK _ W hB rfl (fun _ _ h => h))
  ·intro L ys W hB hF hP K hK
   show OpE _ _ _ W K
   exact OpE.known (j := 32) (v := pv g_9 4) (hF 32 (hP.1 rfl)) (OpE.load (g := g_9) (off := 4) (v := .bool c.clean.wrap) rfl (by kernel_rfl) ((hs_16.grow hB).pt_at (i := 1) rfl) (by kernel_rfl) (hK _ W hB rfl (fun _ _ h => h)))
  ·intro L ys W hB hF hP K hK
   show OpE _ _ _ W K
   exact OpE.known (j := 23) (v := .bool c.clean.origin) (hF 23 (hP.1 rfl)) (OpE.known (j := 27) (v := .bool (c.clean.sg == 2)) (hF 27 (hP.2.1 rfl)) (OpE.known (j := 31) (v := .bool (c.clean.sg == 3)) (hF 31 (hP.2.2.1 rfl)) (OpE.known (j := 33) (v := .bool c.clean.wrap) (hF 33 (hP.2.2.2.1 rfl)) (OpE.new (mk := fun g => sv g 0 4 4) (C := #[.bool c.clean.origin, .bool (c.clean.sg == 2), .bool (c.clean.sg == 3), .bool c.clean.wrap]) (T := 4) (by kernel_rfl) (hK _ _ (hB.alloc _) ⟨W.heap.size, rfl, heap_alloc_new _ _, hB.size⟩ (fun _ _ h => FW.gr HGR ((Gr.refl W).alloc _) h))))))
  ·intro L ys W hB hF hP K hK
   obtain ⟨gq34, hvq34, hbq34, hgq34⟩ := hF 34 (hP.1 rfl)
   show OpE _ _ _ W K
   exact OpE.known (j := 34) (v := sv gq34 0 4 4) hvq34 (OpE.call 24 #[sv gq34 0 4 4] W _ (by kernel_rfl) (bits_4 c.clean.origin (c.clean.sg == 2) (c.clean.sg == 3) c.clean.wrap gq34 W hbq34) (fun x w' hx => by obtain ⟨rfl, hg⟩ := hx; exact ⟨_, rfl, hK _ w' (hB.trans hg) rfl (fun _ _ h => FW.gr HGR hg h)⟩))
  ·intro L ys W hB hF hP K hK
   show OpE _ _ _ W K
   exact OpE.val (iv (uL c.clean.gl)) W (by kernel_rfl) (hK _ W hB rfl (fun _ _ h => h))
  ·intro L ys W hB hF hP K hK
   show OpE _ _ _ W K
   exact OpE.val (iv (uR c.clean.gr)) W (by kernel_rfl) (hK _ W hB rfl (fun _ _ h => h))
  ·intro L ys W hB hF hP K hK
   show OpE _ _ _ W K
   exact OpE.known (j := 36) (v := iv (uL c.clean.gl)) (hF 36 (hP.1 rfl)) (OpE.known (j := 37) (v := iv (uR c.clean.gr)) (hF 37 (hP.2.1 rfl)) (OpE.new (mk := fun g => sv g 0 2 2) (C := #[iv (uL c.clean.gl), iv (uR c.clean.gr)]) (T := 3) (by kernel_rfl) (hK _ _ (hB.alloc _) ⟨W.heap.size, rfl, heap_alloc_new _ _, hB.size⟩ (fun _ _ h => FW.gr HGR ((Gr.refl W).alloc _) h))))
  ·intro L ys W hB hF hP K hK
   obtain ⟨gq38, hvq38, hbq38, hgq38⟩ := hF 38 (hP.1 rfl)
   show OpE _ _ _ W K
   exact OpE.known (j := 38) (v := sv gq38 0 2 2) hvq38 (OpE.call 23 #[sv gq38 0 2 2] W _ (by kernel_rfl) (fmt_walk (l := [uL c.clean.gl, uR c.clean.gr]) (rd_new hbq38 rfl rfl) (Nat.le_refl _) (hT.gr (hs_16.grow hB).gr)) (fun x w' hx => by obtain ⟨rfl, hg⟩ := hx; exact ⟨_, rfl, hK _ w' (hB.trans hg) rfl (fun _ _ h => FW.gr HGR hg h)⟩))
  ·intro L ys W hB hF hP K hK
   show OpE _ _ _ W K
   exact OpE.val (.int .u8 (repSize (gNo c.clean.g0 c.clean.g1 c.clean.g2 c.clean.g3) 4)) W (by kernel_rfl) (hK _ W hB rfl (fun _ _ h => h))
  ·intro L ys W hB hF hP K hK
   show OpE _ _ _ W K
   exact OpE.known (j := 40) (v := .int .u8 (repSize (gNo c.clean.g0 c.clean.g1 c.clean.g2 c.clean.g3) 4)) (hF 40 (hP.1 rfl)) (OpE.new (mk := fun g => sv g 0 1 1) (C := #[.int .u8 (repSize (gNo c.clean.g0 c.clean.g1 c.clean.g2 c.clean.g3) 4)]) (T := 5) (by kernel_rfl) (hK _ _ (hB.alloc _) ⟨W.heap.size, rfl, heap_alloc_new _ _, hB.size⟩ (fun _ _ h => FW.gr HGR ((Gr.refl W).alloc _) h)))
  ·intro L ys W hB hF hP K hK
   obtain ⟨gq41, hvq41, hbq41, hgq41⟩ := hF 41 (hP.1 rfl)
   show OpE _ _ _ W K
   exact OpE.known (j := 41) (v := sv gq41 0 1 1) hvq41 (OpE.val (.string (strOf ([repSize (gNo c.clean.g0 c.clean.g1 c.clean.g2 c.clean.g3) 4]))) W (run_conv rfl (by kernel_rfl) (conv_atH (l := [repSize (gNo c.clean.g0 c.clean.g1 c.clean.g2 c.clean.g3) 4]) hbq41)) (hK _ W hB rfl (fun _ _ h => h)))
  ·intro L ys W hB hF hP K hK
   show OpE _ _ _ W K
   exact OpE.val (.string ⟨(repIds (gNo c.clean.g0 c.clean.g1 c.clean.g2 c.clean.g3) 4).toArray⟩) W (by kernel_rfl) (hK _ W hB rfl (fun _ _ h => h))
 ·intro ys_20 w_17 hs_18 hF_19
  have hg_21 := hs_18
  have hs_18 : SH [] w w_17 [pt g_1 (cvA c.clean) 45, pt g_9 (qStL_0 c) 40] := hs_16.grow hg_21
  refine SL.knownY (j := 12) (v := .string (strOf (fmtR [c.clean.row + 1, c.clean.col + 1, c.clean.page + 1]))) (show ys_20 12 = .string (strOf (fmtR [c.clean.row + 1, c.clean.col + 1, c.clean.page + 1])) from hF_19 12 (by decide)) (SL.knownY (j := 17) (v := .string (strOf ([64 + c.clean.rend]))) (show ys_20 17 = .string (strOf ([64 + c.clean.rend])) from hF_19 17 (by decide)) (SL.knownY (j := 21) (v := .string (strOf [64 + (flagZ c.clean.kept)])) (show ys_20 21 = .string (strOf [64 + (flagZ c.clean.kept)]) from hF_19 21 (by decide)) (SL.knownY (j := 35) (v := .string (strOf [64 + (flagZ c.clean.origin + 2 * flagZ (c.clean.sg == 2) + 4 * flagZ (c.clean.sg == 3) + 8 * flagZ c.clean.wrap)])) (show ys_20 35 = .string (strOf [64 + (flagZ c.clean.origin + 2 * flagZ (c.clean.sg == 2) + 4 * flagZ (c.clean.sg == 3) + 8 * flagZ c.clean.wrap)]) from hF_19 35 (by decide)) (SL.knownY (j := 39) (v := .string (strOf (fmtR [uL c.clean.gl, uR c.clean.gr]))) (show ys_20 39 = .string (strOf (fmtR [uL c.clean.gl, uR c.clean.gr])) from hF_19 39 (by decide)) (SL.knownY (j := 42) (v := .string (strOf ([repSize (gNo c.clean.g0 c.clean.g1 c.clean.g2 c.clean.g3) 4]))) (show ys_20 42 = .string (strOf ([repSize (gNo c.clean.g0 c.clean.g1 c.clean.g2 c.clean.g3) 4])) from hF_19 42 (by decide)) (SL.knownY (j := 43) (v := .string ⟨(repIds (gNo c.clean.g0 c.clean.g1 c.clean.g2 c.clean.g3) 4).toArray⟩) (show ys_20 43 = .string ⟨(repIds (gNo c.clean.g0 c.clean.g1 c.clean.g2 c.clean.g3) 4).toArray⟩ from hF_19 43 (by decide)) (?_)))))))
  clear hF_19 HGR
  refine SL.newH (mk := fun g => sv g 0 7 7) (C := #[.string (strOf (fmtR [c.clean.row + 1, c.clean.col + 1, c.clean.page + 1])), .string (strOf ([64 + c.clean.rend])), .string (strOf [64 + (flagZ c.clean.kept)]), .string (strOf [64 + (flagZ c.clean.origin + 2 * flagZ (c.clean.sg == 2) + 4 * flagZ (c.clean.sg == 3) + 8 * flagZ c.clean.wrap)]), .string (strOf (fmtR [uL c.clean.gl, uR c.clean.gr])), .string (strOf ([repSize (gNo c.clean.g0 c.clean.g1 c.clean.g2 c.clean.g3) 4])), .string ⟨(repIds (gNo c.clean.g0 c.clean.g1 c.clean.g2 c.clean.g3) 4).toArray⟩]) (T := 9) hs_18 rfl rfl (by kernel_rfl) (fun g_22 w_23 hs_24 => ?_)
  have hs_24 : SH [] w w_23 [pt g_1 (cvA c.clean) 45, pt g_9 (qStL_0 c) 40, pt g_22 #[.string (strOf (fmtR [c.clean.row + 1, c.clean.col + 1, c.clean.page + 1])), .string (strOf ([64 + c.clean.rend])), .string (strOf [64 + (flagZ c.clean.kept)]), .string (strOf [64 + (flagZ c.clean.origin + 2 * flagZ (c.clean.sg == 2) + 4 * flagZ (c.clean.sg == 3) + 8 * flagZ c.clean.wrap)]), .string (strOf (fmtR [uL c.clean.gl, uR c.clean.gr])), .string (strOf ([repSize (gNo c.clean.g0 c.clean.g1 c.clean.g2 c.clean.g3) 4])), .string ⟨(repIds (gNo c.clean.g0 c.clean.g1 c.clean.g2 c.clean.g3) 4).toArray⟩] 9] := hs_24
  refine SL.call (f := 22) (args := #[sv g_22 0 7 7, .string ⟨#[59]⟩]) (w1 := w_23) rfl rfl (by kernel_rfl) (join_strs [strOf (fmtR [c.clean.row + 1, c.clean.col + 1, c.clean.page + 1]), strOf ([64 + c.clean.rend]), strOf [64 + (flagZ c.clean.kept)], strOf [64 + (flagZ c.clean.origin + 2 * flagZ (c.clean.sg == 2) + 4 * flagZ (c.clean.sg == 3) + 8 * flagZ c.clean.wrap)], strOf (fmtR [uL c.clean.gl, uR c.clean.gr]), strOf ([repSize (gNo c.clean.g0 c.clean.g1 c.clean.g2 c.clean.g3) 4]), ⟨(repIds (gNo c.clean.g0 c.clean.g1 c.clean.g2 c.clean.g3) 4).toArray⟩] 18 (hs_24.pt_at (i := 2) rfl) rfl rfl (by decide) (Nat.le_of_ble_eq_true rfl) (by simp only [List.forall_mem_cons, List.not_mem_nil, false_implies, implies_true, and_true]; exact ⟨Nat.le_trans (fmt_sz [c.clean.row + 1, c.clean.col + 1, c.clean.page + 1] 3 (Nat.le_refl _)) (Nat.le_of_ble_eq_true rfl), Nat.le_trans (show (strOf [64 + c.clean.rend]).size ≤ 1 from Nat.le_of_eq (strOf_sz [64 + c.clean.rend])) (Nat.le_of_ble_eq_true rfl), Nat.le_trans (Nat.le_of_eq (strOf_sz [64 + (flagZ c.clean.kept)])) (Nat.le_of_ble_eq_true rfl), Nat.le_trans (Nat.le_of_eq (strOf_sz [64 + (flagZ c.clean.origin + 2 * flagZ (c.clean.sg == 2) + 4 * flagZ (c.clean.sg == 3) + 8 * flagZ c.clean.wrap)])) (Nat.le_of_ble_eq_true rfl), Nat.le_trans (fmt_sz [uL c.clean.gl, uR c.clean.gr] 2 (Nat.le_refl _)) (Nat.le_of_ble_eq_true rfl), Nat.le_trans (show (strOf [repSize (gNo c.clean.g0 c.clean.g1 c.clean.g2 c.clean.g3) 4]).size ≤ 1 from Nat.le_of_eq (strOf_sz [repSize (gNo c.clean.g0 c.clean.g1 c.clean.g2 c.clean.g3) 4])) (Nat.le_of_ble_eq_true rfl), Nat.le_trans (ids_sz (gNo c.clean.g0 c.clean.g1 c.clean.g2 c.clean.g3)) (Nat.le_of_ble_eq_true rfl)⟩)) ?_
  rintro x w_25 ⟨rfl, hc_26⟩
  refine ⟨_, rfl, ?_⟩
  have hs_27 := hs_24.grow hc_26
  refine SL.v (.string (joinB [strOf (fmtR [c.clean.row + 1, c.clean.col + 1, c.clean.page + 1]), strOf ([64 + c.clean.rend]), strOf [64 + (flagZ c.clean.kept)], strOf [64 + (flagZ c.clean.origin + 2 * flagZ (c.clean.sg == 2) + 4 * flagZ (c.clean.sg == 3) + 8 * flagZ c.clean.wrap)], strOf (fmtR [uL c.clean.gl, uR c.clean.gr]), strOf ([repSize (gNo c.clean.g0 c.clean.g1 c.clean.g2 c.clean.g3) 4]), ⟨(repIds (gNo c.clean.g0 c.clean.g1 c.clean.g2 c.clean.g3) 4).toArray⟩])) ?_
  refine SL.nil ?_
  refine CW.ret ?_
  repeat with_reducible first | refine PThen.ret ?_ | refine PBlock.ret ?_
  refine PRet.tmp (t := 2) (v := .string (joinB [strOf (fmtR [c.clean.row + 1, c.clean.col + 1, c.clean.page + 1]), strOf ([64 + c.clean.rend]), strOf [64 + (flagZ c.clean.kept)], strOf [64 + (flagZ c.clean.origin + 2 * flagZ (c.clean.sg == 2) + 4 * flagZ (c.clean.sg == 3) + 8 * flagZ c.clean.wrap)], strOf (fmtR [uL c.clean.gl, uR c.clean.gr]), strOf ([repSize (gNo c.clean.g0 c.clean.g1 c.clean.g2 c.clean.g3) 4]), ⟨(repIds (gNo c.clean.g0 c.clean.g1 c.clean.g2 c.clean.g3) 4).toArray⟩])) rfl rfl (by kernel_rfl) ?_
  exact ⟨rfl, hs_27.gr⟩
end Go.Proofs.YtfkecgkfcldffaaGreatDoor
