/-
  The law MacroFull, walked (gen_mpm.py).
-/
import Derived.Test.YtaeppimldbknhaaZLw4
import Derived.Test.YtaeppimldbknhaaZMpL
import Derived.Test.YtaeppimldbknhaaZMcM
namespace Go.Proofs.Ytaeppimldbknhaa
set_option linter.unusedSimpArgs false
set_option linter.unusedVariables false
open Go.RowKit Go.Maps
set_option linter.unusedVariables false

theorem SH.addPure {U : List Nat} {w0 w : World} {As : List HA} {p : Prop} (h : SH U w0 w As) (hp : p) : SH U w0 w (As ++ [pure_ p]) := by
  obtain ⟨fp, h1, h2⟩ := h.st
  exact ⟨h.upd, fp, h1.addPure hp, h2⟩
theorem wf_small (k : Nat) (h : k < 1000000) : (Lit.int .i64 (k : Int)).wf = true := by
  simp [Lit.wf, IntKind.min, IntKind.max, IntKind.bits, IntKind.signed]
  omega
set_option maxRecDepth 100000 in
set_option maxHeartbeats 8000000 in
theorem full_0 (a : Option Addr) (cp : Nat) (zs : List Int) (a1 : Int) (w : World) (hM : MaxOk w) : Calls Try.prog 5 #[.slice a 0 cp, .int .i64 a1] w fun e w' => e = .returned (.bool true) ∧ Gr w w' := by
  obtain ⟨q, hq⟩ : ∃ q : Nat, max 0 (min a1 7000) = (q : Int) := ⟨(max 0 (min a1 7000)).toNat, by omega⟩
  have hq7 : q ≤ 7000 := by omega
  have hzq := zeros_size q
  refine calls_sx (n := 83) (args := [.slice a 0 cp, .int .i64 a1]) Try.func5 rfl rfl rfl ?_
  have hs0 := SH.none w
  refine CW.seq ?_
  refine CW.region ?_
  refine SL.v (.bool false) ?_
  refine SL.nil ?_
  refine CW.seq ?_
  refine CW.seq ?_
  refine CW.region ?_
  refine SL.call (f := 7) (args := #[]) (w1 := w) rfl rfl (by kernel_rfl) (awake20 w (hM.gr hs0.gr)) ?_
  rintro x w_1 ⟨rfl, hc_2⟩
  refine ⟨.bool true, rfl, ?_⟩
  have hs_3 := hs0.grow hc_2
  refine SL.v (.bool false) ?_
  refine SL.nil ?_
  refine CW.cond_false (by kernel_rfl) ?_
  refine CW.skip ?_
  refine CW.seq ?_
  refine CW.region ?_
  refine SL.newH (mk := fun g => .pointer (some ⟨g, 0, none⟩)) (C := #[.map none]) (T := 35) hs_3 rfl rfl (by kernel_rfl) (fun g_4 w_5 hs_6 => ?_)
  have hs_6 : SH [] w w_5 [pt g_4 #[.map none] 35] := hs_6
  refine SL.nil ?_
  refine CW.seq ?_
  refine CW.region ?_
  refine SL.v (.int .i64 0) ?_
  refine SL.nil ?_
  refine CW.seq ?_
  refine CW.seq ?_
  refine CW.region ?_
  refine SL.v (.int .i64 0) ?_
  refine SL.nil ?_
  refine CW.block ?_
  have hs_7 := hs_6.addPure (p := DataW.map [] = (DataW.map [] : DataW Unit) ∧ 0 = 0) ⟨rfl, rfl⟩
  have hs_7 : SH [] w w_5 [pt g_4 #[.map none] 35, oH none 0 (.map [])] := hs_7
  refine CW.loopI (fun m_ e9 w9 => ∃ (k : Nat), ∃ (ob : Option Nat), ∃ (n : Nat), ∃ (D : DataW Unit), ∃ (t : Nat), m_ = 64 - k ∧ SH [] w w9 [pt g_4 #[.map ob] 35, oH ob n D] ∧ (k ≤ 64) ∧ (t = totD D) ∧ (t ≤ 6144) ∧ (n ≤ k) ∧ (∀ j : Nat, k ≤ j → Maps.has D (.int .i64 (j : Int)) = false) ∧ e9 0 = .slice a 0 cp ∧ e9 1 = .int .i64 a1 ∧ e9 4 = .bool false ∧ e9 5 = .pointer (some ⟨g_4, 0, none⟩) ∧ e9 6 = .int .i64 ((t : Nat) : Int) ∧ e9 7 = .int .i64 ((k : Nat) : Int)) ⟨_, 0, none, 0, .map [], 0, rfl, hs_7, (Nat.zero_le _), rfl, (Nat.zero_le _), (Nat.zero_le _), (fun _ _ => rfl), (by kernel_rfl), (by kernel_rfl), (by kernel_rfl), (by kernel_rfl), (by kernel_rfl), (by kernel_rfl)⟩ ?_
  rintro m_8 e_9 w_10 ⟨k, ob, n, D, t, hm_12, hs_11, hk, ht, ht6, hn, hno, hv_13, hv_14, hv_15, hv_16, hv_17, hv_18⟩
  obtain ⟨e_19, rfl⟩ : ∃ e_19, e_9 = put1 (put1 (put1 (put1 (put1 (put1 e_19 0 (.slice a 0 cp)) 1 (.int .i64 a1)) 4 (.bool false)) 5 (.pointer (some ⟨g_4, 0, none⟩))) 6 (.int .i64 ((t : Nat) : Int))) 7 (.int .i64 ((k : Nat) : Int)) := ⟨e_9, (put_self hv_18).trans (congrArg (fun z => put1 z 7 (.int .i64 ((k : Nat) : Int))) ((put_self hv_17).trans (congrArg (fun z => put1 z 6 (.int .i64 ((t : Nat) : Int))) ((put_self hv_16).trans (congrArg (fun z => put1 z 5 (.pointer (some ⟨g_4, 0, none⟩))) ((put_self hv_15).trans (congrArg (fun z => put1 z 4 (.bool false)) ((put_self hv_14).trans (congrArg (fun z => put1 z 1 (.int .i64 a1)) (put_self hv_13))))))))))⟩
  clear hv_13 hv_14 hv_15 hv_16 hv_17 hv_18
  obtain ⟨m, hm⟩ : ∃ m : Nat, max 0 (min (zs.getD k 0) 7000) = (m : Int) := ⟨(max 0 (min (zs.getD k 0) 7000)).toNat, by omega⟩
  have hm7 : m ≤ 7000 := by omega
  have hz := zeros_size m
  refine CW.seq ?_
  refine CW.seq ?_
  refine CW.region ?_
  refine SL.v (.int .i64 ((k : Nat) : Int)) ?_
  refine SL.v (.slice a 0 cp) ?_
  refine SL.val (v := .int .i64 0) (w' := w_10) rfl rfl (by kernel_rfl) ?_
  refine SL.v (.bool (decide (((k : Nat) : Int) < 0))) ?_
  refine SL.v (.bool (decide (((k : Nat) : Int) < 0))) ?_
  have hb_20 : (decide (((k : Nat) : Int) < 0)) = false := (decide_eq_false (by omega))
  rw [hb_20]
  have hqhb_20 := of_decide_eq_false hb_20
  refine SL.no false ?_
  refine SL.no false ?_
  refine SL.v (.bool false) ?_
  refine SL.nil ?_
  refine CW.cond_false (by kernel_rfl) ?_
  refine CW.exit ?_
  repeat with_reducible first | refine PThen.exit ?_ | refine PBlock.out rfl ?_
  with_reducible refine PBlock.here ?_
  repeat with_reducible refine PBlock.normal ?_
  refine CW.seq ?_
  refine CW.region ?_
  refine SL.v (.int .i64 a1) ?_
  refine SL.val (v := .int .i64 (min a1 7000)) (w' := w_10) rfl rfl (run_eqv (by kernel_rfl) (congrArg (Value.int .i64) (imin a1 7000))) ?_
  refine SL.val (v := .int .i64 ((q : Nat) : Int)) (w' := w_10) rfl rfl (run_eqv (by kernel_rfl) (congrArg (Value.int .i64) ((imax 0 (min a1 7000)).trans hq))) ?_
  refine SL.v (.int .i64 ((q : Nat) : Int)) ?_
  refine SL.nil ?_
  refine CW.seq ?_
  refine CW.region ?_
  refine SL.callH (f := 14) (args := #[.pointer (some ⟨g_4, 0, none⟩)]) (Pre := [pt g_4 #[.map ob] 35, oH ob n D]) (Rest := []) [0, 0] hs_11 rfl rfl (by kernel_rfl) rfl (sclone_o g_4 ob n D w_10) ?_
  rintro v_ Q_ w_24 ⟨g_21, ob_22, rfl, ho_23, rfl⟩ hs_26
  have hs_26 : SH [] w w_24 [pt g_21 #[.map ob_22] 35, oH ob_22 n D, pt g_4 #[.map ob] 35, oH ob n D] := hs_26
  refine SL.v (.pointer (some ⟨g_21, 0, none⟩)) ?_
  refine SL.nil ?_
  refine CW.seq ?_
  rcases Bool.eq_false_or_eq_true (decide (6144 < ((q : Nat) : Int))) with hb_27 | hb_27
  · try rw [hb_27]
    have hqhb_27 := of_decide_eq_true hb_27
    refine CW.region ?_
    refine SL.v (.int .i64 ((q : Nat) : Int)) ?_
    refine SL.makeU8 (m := q) hs_26 rfl rfl rfl rfl (by omega) (fun g_28 w_29 hs_30 => ?_)
    have hs_30 : SH [] w w_29 [pt g_21 #[.map ob_22] 35, oH ob_22 n D, pt g_4 #[.map ob] 35, oH ob n D, pt g_28 (bcells (zerosL q)).toArray 5] := hs_30
    refine SL.val (v := .string (strOf (zerosL q))) (w' := w_29) rfl rfl (run_conv rfl (by kernel_rfl) (conv_zeros (hs_30.pt_at (i := 4) rfl))) ?_
    refine SL.callH (f := 12) (args := #[.pointer (some ⟨g_4, 0, none⟩), .int .i64 5, .bool true, .bool false, .string (strOf (zerosL q))]) (Pre := [pt g_4 #[.map ob] 35]) (Rest := [pt g_21 #[.map ob_22] 35, oH ob_22 n D, oH ob n D, pt g_28 (bcells (zerosL q)).toArray 5]) [2] hs_30 rfl rfl (by kernel_rfl) rfl ((def_clear g_4 5 (strOf (zerosL q)) (.map ob) w_29 (by decide) (by omega) (by omega) (by omega)).mono (fun v Q h => h.resolve_left (fun h_ => absurd h_.1 (by omega)))) ?_
    rintro v_ Q_ w_31 ⟨hfx, rfl, rfl⟩ hs_33
    have hs_33 : SH [] w w_31 [pt g_4 #[.map ob] 35, pt g_21 #[.map ob_22] 35, oH ob_22 n D, oH ob n D, pt g_28 (bcells (zerosL q)).toArray 5] := hs_33
    refine SL.v (.int .i64 5) ?_
    refine SL.nil ?_
    refine CW.seq ?_
    refine CW.seq ?_
    refine CW.region ?_
    refine SL.v (.int .i64 ((q : Nat) : Int)) ?_
    refine SL.val (v := .bool true) (w' := w_31) rfl rfl (run_eqv (by kernel_rfl) (congrArg Value.bool hb_27)) ?_
    refine SL.nil ?_
    refine CW.cond_true (by kernel_rfl) ?_
    refine CW.seq ?_
    refine CW.region ?_
    refine SL.v (.int .i64 5) ?_
    refine SL.v (.bool true) ?_
    refine SL.v (.bool true) ?_
    refine SL.go ?_
    refine SL.v (.pointer (some ⟨g_21, 0, none⟩)) ?_
    refine SL.go ?_
    refine SL.callH (f := 15) (args := #[.pointer (some ⟨g_4, 0, none⟩), .pointer (some ⟨g_21, 0, none⟩)]) (Pre := [pt g_4 #[.map ob] 35, oH ob n D, pt g_21 #[.map ob_22] 35, oH ob_22 n D]) (Rest := [pt g_28 (bcells (zerosL q)).toArray 5]) [0, 2, 0, 0] hs_33 rfl rfl (by kernel_rfl) rfl (same_o g_4 g_21 ob ob_22 n n D w_31 ho_23) ?_
    rintro v_ Q_ w_34 ⟨rfl, rfl⟩ hs_36
    have hs_36 : SH [] w w_34 [pt g_4 #[.map ob] 35, oH ob n D, pt g_21 #[.map ob_22] 35, oH ob_22 n D, pt g_28 (bcells (zerosL q)).toArray 5] := hs_36
    refine SL.v (.bool true) ?_
    refine SL.v (.bool true) ?_
    refine SL.nil ?_
    refine CW.ret ?_
    repeat with_reducible first | refine PThen.ret ?_ | refine PBlock.ret ?_
    refine PRet.tmp (t := 4) (v := .bool true) rfl rfl (by kernel_rfl) ?_
    exact ⟨rfl, hs_36.gr⟩
  · try rw [hb_27]
    have hqhb_27 := of_decide_eq_false hb_27
    refine CW.region ?_
    refine SL.v (.int .i64 ((q : Nat) : Int)) ?_
    refine SL.makeU8 (m := q) hs_26 rfl rfl rfl rfl (by omega) (fun g_37 w_38 hs_39 => ?_)
    have hs_39 : SH [] w w_38 [pt g_21 #[.map ob_22] 35, oH ob_22 n D, pt g_4 #[.map ob] 35, oH ob n D, pt g_37 (bcells (zerosL q)).toArray 5] := hs_39
    refine SL.val (v := .string (strOf (zerosL q))) (w' := w_38) rfl rfl (run_conv rfl (by kernel_rfl) (conv_zeros (hs_39.pt_at (i := 4) rfl))) ?_
    refine SL.callH (f := 12) (args := #[.pointer (some ⟨g_4, 0, none⟩), .int .i64 5, .bool true, .bool false, .string (strOf (zerosL q))]) (Pre := [pt g_4 #[.map ob] 35]) (Rest := [pt g_21 #[.map ob_22] 35, oH ob_22 n D, oH ob n D, pt g_37 (bcells (zerosL q)).toArray 5]) [2] hs_39 rfl rfl (by kernel_rfl) rfl ((def_clear g_4 5 (strOf (zerosL q)) (.map ob) w_38 (by decide) (by omega) (by omega) (by omega)).mono (fun v Q h => h.resolve_right (fun h_ => absurd h_.1 (by omega)))) ?_
    rintro v_ Q_ w_48 ⟨hf_46, rfl, b_40, c_41, E_42, hE_43, hh_44, hc_45, rfl⟩ hs_50
    have hs_50 : SH [] w w_48 [pt g_4 #[.map (some b_40)] 35, oH (some b_40) c_41 E_42, pt g_21 #[.map ob_22] 35, oH ob_22 n D, oH ob n D, pt g_37 (bcells (zerosL q)).toArray 5] := hs_50
    refine SL.v (.int .i64 0) ?_
    refine SL.nil ?_
    refine CW.seq ?_
    refine CW.seq ?_
    refine CW.region ?_
    refine SL.v (.int .i64 ((q : Nat) : Int)) ?_
    refine SL.val (v := .bool false) (w' := w_48) rfl rfl (run_eqv (by kernel_rfl) (congrArg Value.bool hb_27)) ?_
    refine SL.nil ?_
    refine CW.cond_false (by kernel_rfl) ?_
    refine CW.skip ?_
    refine CW.seq ?_
    refine CW.region ?_
    refine SL.v (.int .i64 0) ?_
    refine SL.v (.bool true) ?_
    refine SL.v (.bool true) ?_
    refine SL.go ?_
    have hk_51 := hs_50.oOk (i := 1) rfl
    refine SL.callH (f := 13) (args := #[.pointer (some ⟨g_4, 0, none⟩)]) (Pre := [pt g_4 #[.map (some b_40)] 35, oH (some b_40) c_41 E_42]) (Rest := [pt g_21 #[.map ob_22] 35, oH ob_22 n D, oH ob n D, pt g_37 (bcells (zerosL q)).toArray 5]) [0, 0] hs_50 rfl rfl (by kernel_rfl) rfl (space_o g_4 (some b_40) c_41 E_42 w_48 hk_51 (by omega)) ?_
    rintro v_ Q_ w_52 ⟨rfl, rfl⟩ hs_54
    have hs_54 : SH [] w w_52 [pt g_4 #[.map (some b_40)] 35, oH (some b_40) c_41 E_42, pt g_21 #[.map ob_22] 35, oH ob_22 n D, oH ob n D, pt g_37 (bcells (zerosL q)).toArray 5] := hs_54
    refine SL.go ?_
    refine SL.v (.int .i64 ((q : Nat) : Int)) ?_
    refine SL.go ?_
    refine SL.val (v := .int .i64 (6144 - ((q : Nat) : Int))) (w' := w_52) rfl rfl (by have hw : IntKind.i64.wrap (6144 - ((q : Nat) : Int)) = 6144 - ((q : Nat) : Int) := IntWalk.i64_in _ (by omega); exact run_eqv (by kernel_rfl) (congrArg (fun z => Value.int .i64 z) hw)) ?_
    refine SL.go ?_
    refine SL.val (v := .bool true) (w' := w_52) rfl rfl (run_eqv (by kernel_rfl) (congrArg Value.bool (show ((6144 - ((totD E_42 : Nat) : Int)) == (6144 - ((q : Nat) : Int))) = (true) from (by simp; omega)))) ?_
    refine SL.v (.bool true) ?_
    refine SL.v (.bool true) ?_
    refine SL.nil ?_
    refine CW.ret ?_
    repeat with_reducible first | refine PThen.ret ?_ | refine PBlock.ret ?_
    refine PRet.tmp (t := 4) (v := .bool true) rfl rfl (by kernel_rfl) ?_
    exact ⟨rfl, hs_54.gr⟩
set_option maxRecDepth 100000 in
set_option maxHeartbeats 8000000 in
theorem full_n (b off len cp : Nat) (C : Array Value) (T : TypeId) (fr : Nat × Nat) (zs : List Int) (a1 : Int) (w : World) (hM : MaxOk w) (hb0 : w.heap[b]? = some (.cells C T fr)) (hrow : ∀ i, i < len → C[off + i]? = some (.int .i64 (zs.getD i 0))) (hbig : len ≤ maxLen) : Calls Try.prog 5 #[.slice (some ⟨b, off, none⟩) len cp, .int .i64 a1] w fun e w' => e = .returned (.bool true) ∧ Gr w w' := by
  obtain ⟨q, hq⟩ : ∃ q : Nat, max 0 (min a1 7000) = (q : Int) := ⟨(max 0 (min a1 7000)).toNat, by omega⟩
  have hq7 : q ≤ 7000 := by omega
  have hzq := zeros_size q
  refine calls_sx (n := 83) (args := [.slice (some ⟨b, off, none⟩) len cp, .int .i64 a1]) Try.func5 rfl rfl rfl ?_
  have hs0 := SH.none w
  refine CW.seq ?_
  refine CW.region ?_
  refine SL.v (.bool false) ?_
  refine SL.nil ?_
  refine CW.seq ?_
  refine CW.seq ?_
  refine CW.region ?_
  refine SL.call (f := 7) (args := #[]) (w1 := w) rfl rfl (by kernel_rfl) (awake20 w (hM.gr hs0.gr)) ?_
  rintro x w_1 ⟨rfl, hc_2⟩
  refine ⟨.bool true, rfl, ?_⟩
  have hs_3 := hs0.grow hc_2
  refine SL.v (.bool false) ?_
  refine SL.nil ?_
  refine CW.cond_false (by kernel_rfl) ?_
  refine CW.skip ?_
  refine CW.seq ?_
  refine CW.region ?_
  refine SL.newH (mk := fun g => .pointer (some ⟨g, 0, none⟩)) (C := #[.map none]) (T := 35) hs_3 rfl rfl (by kernel_rfl) (fun g_4 w_5 hs_6 => ?_)
  have hs_6 : SH [] w w_5 [pt g_4 #[.map none] 35] := hs_6
  refine SL.nil ?_
  refine CW.seq ?_
  refine CW.region ?_
  refine SL.v (.int .i64 0) ?_
  refine SL.nil ?_
  refine CW.seq ?_
  refine CW.seq ?_
  refine CW.region ?_
  refine SL.v (.int .i64 0) ?_
  refine SL.nil ?_
  refine CW.block ?_
  have hs_7 := hs_6.addPure (p := DataW.map [] = (DataW.map [] : DataW Unit) ∧ 0 = 0) ⟨rfl, rfl⟩
  have hs_7 : SH [] w w_5 [pt g_4 #[.map none] 35, oH none 0 (.map [])] := hs_7
  refine CW.loopI (fun m_ e9 w9 => ∃ (k : Nat), ∃ (ob : Option Nat), ∃ (n : Nat), ∃ (D : DataW Unit), ∃ (t : Nat), m_ = 64 - k ∧ SH [] w w9 [pt g_4 #[.map ob] 35, oH ob n D] ∧ (k ≤ 64) ∧ (t = totD D) ∧ (t ≤ 6144) ∧ (n ≤ k) ∧ (∀ j : Nat, k ≤ j → Maps.has D (.int .i64 (j : Int)) = false) ∧ e9 0 = .slice (some ⟨b, off, none⟩) len cp ∧ e9 1 = .int .i64 a1 ∧ e9 4 = .bool false ∧ e9 5 = .pointer (some ⟨g_4, 0, none⟩) ∧ e9 6 = .int .i64 ((t : Nat) : Int) ∧ e9 7 = .int .i64 ((k : Nat) : Int)) ⟨_, 0, none, 0, .map [], 0, rfl, hs_7, (Nat.zero_le _), rfl, (Nat.zero_le _), (Nat.zero_le _), (fun _ _ => rfl), (by kernel_rfl), (by kernel_rfl), (by kernel_rfl), (by kernel_rfl), (by kernel_rfl), (by kernel_rfl)⟩ ?_
  rintro m_8 e_9 w_10 ⟨k, ob, n, D, t, hm_12, hs_11, hk, ht, ht6, hn, hno, hv_13, hv_14, hv_15, hv_16, hv_17, hv_18⟩
  obtain ⟨e_19, rfl⟩ : ∃ e_19, e_9 = put1 (put1 (put1 (put1 (put1 (put1 e_19 0 (.slice (some ⟨b, off, none⟩) len cp)) 1 (.int .i64 a1)) 4 (.bool false)) 5 (.pointer (some ⟨g_4, 0, none⟩))) 6 (.int .i64 ((t : Nat) : Int))) 7 (.int .i64 ((k : Nat) : Int)) := ⟨e_9, (put_self hv_18).trans (congrArg (fun z => put1 z 7 (.int .i64 ((k : Nat) : Int))) ((put_self hv_17).trans (congrArg (fun z => put1 z 6 (.int .i64 ((t : Nat) : Int))) ((put_self hv_16).trans (congrArg (fun z => put1 z 5 (.pointer (some ⟨g_4, 0, none⟩))) ((put_self hv_15).trans (congrArg (fun z => put1 z 4 (.bool false)) ((put_self hv_14).trans (congrArg (fun z => put1 z 1 (.int .i64 a1)) (put_self hv_13))))))))))⟩
  clear hv_13 hv_14 hv_15 hv_16 hv_17 hv_18
  obtain ⟨m, hm⟩ : ∃ m : Nat, max 0 (min (zs.getD k 0) 7000) = (m : Int) := ⟨(max 0 (min (zs.getD k 0) 7000)).toNat, by omega⟩
  have hm7 : m ≤ 7000 := by omega
  have hz := zeros_size m
  have hld : k < len → C[off + k]? = some (.int .i64 (zs.getD k 0)) := fun h_ => hrow k h_
  refine CW.seq ?_
  refine CW.seq ?_
  refine CW.region ?_
  refine SL.v (.int .i64 ((k : Nat) : Int)) ?_
  refine SL.v (.slice (some ⟨b, off, none⟩) len cp) ?_
  refine SL.val (v := .int .i64 ((len : Nat) : Int)) (w' := w_10) rfl rfl (by kernel_rfl) ?_
  refine SL.v (.bool (decide (((k : Nat) : Int) < ((len : Nat) : Int)))) ?_
  refine SL.v (.bool (decide (((k : Nat) : Int) < ((len : Nat) : Int)))) ?_
  rcases Bool.eq_false_or_eq_true (decide (((k : Nat) : Int) < ((len : Nat) : Int))) with hb_20 | hb_20
  · try rw [hb_20]
    have hqhb_20 := of_decide_eq_true hb_20
    refine SL.go ?_
    refine SL.v (.int .i64 ((k : Nat) : Int)) ?_
    refine SL.go ?_
    refine SL.v (.bool (decide (((k : Nat) : Int) < 64))) ?_
    refine SL.v (.bool (decide (((k : Nat) : Int) < 64))) ?_
    refine SL.nil ?_
    rcases Bool.eq_false_or_eq_true (decide (((k : Nat) : Int) < 64)) with hb_21 | hb_21
    · try rw [hb_21]
      have hqhb_21 := of_decide_eq_true hb_21
      refine CW.cond_true (by kernel_rfl) ?_
      refine CW.skip ?_
      refine CW.seq ?_
      refine CW.block ?_
      refine CW.seq ?_
      refine CW.region ?_
      refine SL.v (.slice (some ⟨b, off, none⟩) len cp) ?_
      refine SL.v (.int .i64 ((k : Nat) : Int)) ?_
      refine SL.val (v := .pointer (some ⟨b, off + k, none⟩)) (w' := w_10) rfl rfl ((run_ix (len := len) (cap := cp) (q := .i64) (I := ((k : Nat) : Int)) (g := b) (off := off) (i := k) (size := 1) rfl (by kernel_rfl) (by kernel_rfl) rfl (by kernel_rfl) (by kernel_rfl) (by omega)).trans (by rw [show off + k * 1 = off + k from by omega])) ?_
      refine SL.load (g := b) (off := off + k) (v := .int .i64 (zs.getD k 0)) rfl rfl rfl (by kernel_rfl) (hs_11.gr.blk hb0) (ldV_one (by kernel_rfl) (by kernel_rfl) (hld (by omega))) ?_
      refine SL.val (v := .int .i64 (min (zs.getD k 0) 7000)) (w' := w_10) rfl rfl (run_eqv (by kernel_rfl) (congrArg (Value.int .i64) (imin (zs.getD k 0) 7000))) ?_
      refine SL.val (v := .int .i64 ((m : Nat) : Int)) (w' := w_10) rfl rfl (run_eqv (by kernel_rfl) (congrArg (Value.int .i64) ((imax 0 (min (zs.getD k 0) 7000)).trans hm))) ?_
      refine SL.v (.int .i64 ((m : Nat) : Int)) ?_
      refine SL.nil ?_
      refine CW.seq ?_
      rcases Bool.eq_false_or_eq_true (decide (((t + m : Nat) : Int) ≤ 6144)) with hb_22 | hb_22
      · try rw [hb_22]
        have hqhb_22 := of_decide_eq_true hb_22
        refine CW.region ?_
        refine SL.v (.int .i64 ((k : Nat) : Int)) ?_
        refine SL.v (.int .i64 ((m : Nat) : Int)) ?_
        refine SL.makeU8 (m := m) hs_11 rfl rfl rfl rfl (by omega) (fun g_23 w_24 hs_25 => ?_)
        have hs_25 : SH [] w w_24 [pt g_4 #[.map ob] 35, oH ob n D, pt g_23 (bcells (zerosL m)).toArray 5] := hs_25
        refine SL.val (v := .string (strOf (zerosL m))) (w' := w_24) rfl rfl (run_conv rfl (by kernel_rfl) (conv_zeros (hs_25.pt_at (i := 2) rfl))) ?_
        have hk_26 := hs_25.oOk (i := 1) rfl
        refine SL.callH (f := 12) (args := #[.pointer (some ⟨g_4, 0, none⟩), .int .i64 ((k : Nat) : Int), .bool false, .bool false, .string (strOf (zerosL m))]) (Pre := [pt g_4 #[.map ob] 35, oH ob n D]) (Rest := [pt g_23 (bcells (zerosL m)).toArray 5]) [0, 0] hs_25 rfl rfl (by kernel_rfl) rfl ((def_o g_4 ((k : Nat) : Int) (strOf (zerosL m)) ob n D w_24 (wf_small k (by omega)) (by omega) (by omega) (by omega) hk_26 (by omega) (by omega) (hno k (Nat.le_refl _))).mono (fun v Q h => h.resolve_right (fun h_ => absurd h_.1 (by omega)))) ?_
        rintro v_ Q_ w_35 ⟨hf_33, rfl, b_27, c_28, E_29, hE_30, hh_31, hc_32, rfl⟩ hs_37
        have hs_37 : SH [] w w_35 [pt g_4 #[.map (some b_27)] 35, oH (some b_27) c_28 E_29, pt g_23 (bcells (zerosL m)).toArray 5] := hs_37
        refine SL.v (.int .i64 0) ?_
        refine SL.nil ?_
        refine CW.seq ?_
        refine CW.seq ?_
        refine CW.region ?_
        refine SL.v (.int .i64 0) ?_
        refine SL.v (.bool true) ?_
        refine SL.v (.int .i64 ((t : Nat) : Int)) ?_
        refine SL.v (.int .i64 ((m : Nat) : Int)) ?_
        refine SL.val (v := .int .i64 ((t + m : Nat) : Int)) (w' := w_35) rfl rfl (by have hw : IntKind.i64.wrap (((t : Nat) : Int) + ((m : Nat) : Int)) = ((t + m : Nat) : Int) := (IntWalk.i64_in _ (by omega)).trans (by omega); exact run_eqv (by kernel_rfl) (congrArg (fun z => Value.int .i64 z) hw)) ?_
        refine SL.val (v := .bool true) (w' := w_35) rfl rfl (run_eqv (by kernel_rfl) (congrArg Value.bool hb_22)) ?_
        refine SL.val (v := .bool false) (w' := w_35) rfl rfl (run_boolne (a := true) (b := true) (c := false) rfl (by kernel_rfl) (by kernel_rfl) (by kernel_rfl) rfl) ?_
        refine SL.v (.bool false) ?_
        refine SL.go ?_
        refine SL.v (.int .i64 0) ?_
        refine SL.go ?_
        refine SL.v (.bool false) ?_
        refine SL.go ?_
        refine SL.v (.bool false) ?_
        refine SL.no false ?_
        refine SL.no false ?_
        refine SL.go ?_
        refine SL.v (.bool false) ?_
        refine SL.v (.bool false) ?_
        refine SL.nil ?_
        refine CW.cond_false (by kernel_rfl) ?_
        refine CW.skip ?_
        refine CW.seq ?_
        refine CW.seq ?_
        refine CW.region ?_
        refine SL.v (.int .i64 0) ?_
        refine SL.v (.bool true) ?_
        refine SL.nil ?_
        refine CW.cond_true (by kernel_rfl) ?_
        refine CW.region ?_
        refine SL.v (.int .i64 ((t : Nat) : Int)) ?_
        refine SL.v (.int .i64 ((m : Nat) : Int)) ?_
        refine SL.val (v := .int .i64 ((t + m : Nat) : Int)) (w' := w_35) rfl rfl (by have hw : IntKind.i64.wrap (((t : Nat) : Int) + ((m : Nat) : Int)) = ((t + m : Nat) : Int) := (IntWalk.i64_in _ (by omega)).trans (by omega); exact run_eqv (by kernel_rfl) (congrArg (fun z => Value.int .i64 z) hw)) ?_
        refine SL.v (.int .i64 ((t + m : Nat) : Int)) ?_
        refine SL.nil ?_
        refine CW.seq ?_
        refine CW.region ?_
        have hk_38 := hs_37.oOk (i := 1) rfl
        refine SL.callH (f := 13) (args := #[.pointer (some ⟨g_4, 0, none⟩)]) (Pre := [pt g_4 #[.map (some b_27)] 35, oH (some b_27) c_28 E_29]) (Rest := [pt g_23 (bcells (zerosL m)).toArray 5]) [0, 0] hs_37 rfl rfl (by kernel_rfl) rfl (space_o g_4 (some b_27) c_28 E_29 w_35 hk_38 (by omega)) ?_
        rintro v_ Q_ w_39 ⟨rfl, rfl⟩ hs_41
        have hs_41 : SH [] w w_39 [pt g_4 #[.map (some b_27)] 35, oH (some b_27) c_28 E_29, pt g_23 (bcells (zerosL m)).toArray 5] := hs_41
        refine SL.v (.int .i64 ((t + m : Nat) : Int)) ?_
        refine SL.val (v := .int .i64 (6144 - ((t + m : Nat) : Int))) (w' := w_39) rfl rfl (by have hw : IntKind.i64.wrap (6144 - ((t + m : Nat) : Int)) = 6144 - ((t + m : Nat) : Int) := IntWalk.i64_in _ (by omega); exact run_eqv (by kernel_rfl) (congrArg (fun z => Value.int .i64 z) hw)) ?_
        refine SL.val (v := .bool false) (w' := w_39) rfl rfl (run_eqv (by kernel_rfl) (congrArg Value.bool (show (!((6144 - ((totD E_29 : Nat) : Int)) == (6144 - ((t + m : Nat) : Int)))) = (false) from (by simp; omega)))) ?_
        refine SL.nil ?_
        refine CW.cond_false (by kernel_rfl) ?_
        refine CW.skip ?_
        refine CW.region ?_
        refine SL.v (.int .i64 ((k : Nat) : Int)) ?_
        refine SL.val (v := .int .i64 ((k + 1 : Nat) : Int)) (w' := w_39) rfl rfl (by have hw : IntKind.i64.wrap (((k : Nat) : Int) + 1) = ((k + 1 : Nat) : Int) := (IntWalk.i64_in _ (by omega)).trans (by omega); exact run_eqv (by kernel_rfl) (congrArg (fun z => Value.int .i64 z) hw)) ?_
        refine SL.v (.int .i64 ((k + 1 : Nat) : Int)) ?_
        refine SL.nil ?_
        have hk_42 := (hs_41.oOk (i := 1) rfl).size
        exact ⟨_, ⟨k + 1, (some b_27), c_28, E_29, t + m, rfl, (hs_41.pick [0, 0] rfl), (by omega), (by omega), (by omega), (by omega), (fun j hj => (hh_31 _ (by intro h_; injection h_ with h1_ h2_; omega)).trans (hno j (by omega))), (by kernel_rfl), (by kernel_rfl), (by kernel_rfl), (by kernel_rfl), (by kernel_rfl), (by kernel_rfl)⟩, by omega⟩
      · try rw [hb_22]
        have hqhb_22 := of_decide_eq_false hb_22
        refine CW.region ?_
        refine SL.v (.int .i64 ((k : Nat) : Int)) ?_
        refine SL.v (.int .i64 ((m : Nat) : Int)) ?_
        refine SL.makeU8 (m := m) hs_11 rfl rfl rfl rfl (by omega) (fun g_43 w_44 hs_45 => ?_)
        have hs_45 : SH [] w w_44 [pt g_4 #[.map ob] 35, oH ob n D, pt g_43 (bcells (zerosL m)).toArray 5] := hs_45
        refine SL.val (v := .string (strOf (zerosL m))) (w' := w_44) rfl rfl (run_conv rfl (by kernel_rfl) (conv_zeros (hs_45.pt_at (i := 2) rfl))) ?_
        have hk_46 := hs_45.oOk (i := 1) rfl
        refine SL.callH (f := 12) (args := #[.pointer (some ⟨g_4, 0, none⟩), .int .i64 ((k : Nat) : Int), .bool false, .bool false, .string (strOf (zerosL m))]) (Pre := [pt g_4 #[.map ob] 35, oH ob n D]) (Rest := [pt g_43 (bcells (zerosL m)).toArray 5]) [0, 0] hs_45 rfl rfl (by kernel_rfl) rfl ((def_o g_4 ((k : Nat) : Int) (strOf (zerosL m)) ob n D w_44 (wf_small k (by omega)) (by omega) (by omega) (by omega) hk_46 (by omega) (by omega) (hno k (Nat.le_refl _))).mono (fun v Q h => h.resolve_left (fun h_ => absurd h_.1 (by omega)))) ?_
        rintro v_ Q_ w_47 ⟨hfx, rfl, rfl⟩ hs_49
        have hs_49 : SH [] w w_47 [pt g_4 #[.map ob] 35, oH ob n D, pt g_43 (bcells (zerosL m)).toArray 5] := hs_49
        refine SL.v (.int .i64 5) ?_
        refine SL.nil ?_
        refine CW.seq ?_
        refine CW.seq ?_
        refine CW.region ?_
        refine SL.v (.int .i64 5) ?_
        refine SL.v (.bool false) ?_
        refine SL.v (.int .i64 ((t : Nat) : Int)) ?_
        refine SL.v (.int .i64 ((m : Nat) : Int)) ?_
        refine SL.val (v := .int .i64 ((t + m : Nat) : Int)) (w' := w_47) rfl rfl (by have hw : IntKind.i64.wrap (((t : Nat) : Int) + ((m : Nat) : Int)) = ((t + m : Nat) : Int) := (IntWalk.i64_in _ (by omega)).trans (by omega); exact run_eqv (by kernel_rfl) (congrArg (fun z => Value.int .i64 z) hw)) ?_
        refine SL.val (v := .bool false) (w' := w_47) rfl rfl (run_eqv (by kernel_rfl) (congrArg Value.bool hb_22)) ?_
        refine SL.val (v := .bool false) (w' := w_47) rfl rfl (run_boolne (a := false) (b := false) (c := false) rfl (by kernel_rfl) (by kernel_rfl) (by kernel_rfl) rfl) ?_
        refine SL.v (.bool false) ?_
        refine SL.go ?_
        refine SL.v (.int .i64 5) ?_
        refine SL.go ?_
        refine SL.v (.bool true) ?_
        refine SL.go ?_
        refine SL.v (.bool true) ?_
        refine SL.go ?_
        refine SL.v (.int .i64 5) ?_
        refine SL.go ?_
        refine SL.v (.bool false) ?_
        refine SL.go ?_
        refine SL.v (.bool false) ?_
        refine SL.v (.bool false) ?_
        refine SL.nil ?_
        refine CW.cond_false (by kernel_rfl) ?_
        refine CW.skip ?_
        refine CW.seq ?_
        refine CW.seq ?_
        refine CW.region ?_
        refine SL.v (.int .i64 5) ?_
        refine SL.v (.bool false) ?_
        refine SL.nil ?_
        refine CW.cond_false (by kernel_rfl) ?_
        refine CW.skip ?_
        refine CW.seq ?_
        refine CW.region ?_
        have hk_50 := hs_49.oOk (i := 1) rfl
        refine SL.callH (f := 13) (args := #[.pointer (some ⟨g_4, 0, none⟩)]) (Pre := [pt g_4 #[.map ob] 35, oH ob n D]) (Rest := [pt g_43 (bcells (zerosL m)).toArray 5]) [0, 0] hs_49 rfl rfl (by kernel_rfl) rfl (space_o g_4 ob n D w_47 hk_50 (by omega)) ?_
        rintro v_ Q_ w_51 ⟨rfl, rfl⟩ hs_53
        have hs_53 : SH [] w w_51 [pt g_4 #[.map ob] 35, oH ob n D, pt g_43 (bcells (zerosL m)).toArray 5] := hs_53
        refine SL.v (.int .i64 ((t : Nat) : Int)) ?_
        refine SL.val (v := .int .i64 (6144 - ((t : Nat) : Int))) (w' := w_51) rfl rfl (by have hw : IntKind.i64.wrap (6144 - ((t : Nat) : Int)) = 6144 - ((t : Nat) : Int) := IntWalk.i64_in _ (by omega); exact run_eqv (by kernel_rfl) (congrArg (fun z => Value.int .i64 z) hw)) ?_
        refine SL.val (v := .bool false) (w' := w_51) rfl rfl (run_eqv (by kernel_rfl) (congrArg Value.bool (show (!((6144 - ((totD D : Nat) : Int)) == (6144 - ((t : Nat) : Int)))) = (false) from (by simp; omega)))) ?_
        refine SL.nil ?_
        refine CW.cond_false (by kernel_rfl) ?_
        refine CW.skip ?_
        refine CW.region ?_
        refine SL.v (.int .i64 ((k : Nat) : Int)) ?_
        refine SL.val (v := .int .i64 ((k + 1 : Nat) : Int)) (w' := w_51) rfl rfl (by have hw : IntKind.i64.wrap (((k : Nat) : Int) + 1) = ((k + 1 : Nat) : Int) := (IntWalk.i64_in _ (by omega)).trans (by omega); exact run_eqv (by kernel_rfl) (congrArg (fun z => Value.int .i64 z) hw)) ?_
        refine SL.v (.int .i64 ((k + 1 : Nat) : Int)) ?_
        refine SL.nil ?_
        have hk_54 := (hs_53.oOk (i := 1) rfl).size
        exact ⟨_, ⟨k + 1, ob, n, D, t, rfl, (hs_53.pick [0, 0] rfl), (by omega), ht, (by omega), (by omega), (fun j hj => hno j (by omega)), (by kernel_rfl), (by kernel_rfl), (by kernel_rfl), (by kernel_rfl), (by kernel_rfl), (by kernel_rfl)⟩, by omega⟩
    · try rw [hb_21]
      have hqhb_21 := of_decide_eq_false hb_21
      refine CW.cond_false (by kernel_rfl) ?_
      refine CW.exit ?_
      repeat with_reducible first | refine PThen.exit ?_ | refine PBlock.out rfl ?_
      with_reducible refine PBlock.here ?_
      repeat with_reducible refine PBlock.normal ?_
      refine CW.seq ?_
      refine CW.region ?_
      refine SL.v (.int .i64 a1) ?_
      refine SL.val (v := .int .i64 (min a1 7000)) (w' := w_10) rfl rfl (run_eqv (by kernel_rfl) (congrArg (Value.int .i64) (imin a1 7000))) ?_
      refine SL.val (v := .int .i64 ((q : Nat) : Int)) (w' := w_10) rfl rfl (run_eqv (by kernel_rfl) (congrArg (Value.int .i64) ((imax 0 (min a1 7000)).trans hq))) ?_
      refine SL.v (.int .i64 ((q : Nat) : Int)) ?_
      refine SL.nil ?_
      refine CW.seq ?_
      refine CW.region ?_
      refine SL.callH (f := 14) (args := #[.pointer (some ⟨g_4, 0, none⟩)]) (Pre := [pt g_4 #[.map ob] 35, oH ob n D]) (Rest := []) [0, 0] hs_11 rfl rfl (by kernel_rfl) rfl (sclone_o g_4 ob n D w_10) ?_
      rintro v_ Q_ w_58 ⟨g_55, ob_56, rfl, ho_57, rfl⟩ hs_60
      have hs_60 : SH [] w w_58 [pt g_55 #[.map ob_56] 35, oH ob_56 n D, pt g_4 #[.map ob] 35, oH ob n D] := hs_60
      refine SL.v (.pointer (some ⟨g_55, 0, none⟩)) ?_
      refine SL.nil ?_
      refine CW.seq ?_
      rcases Bool.eq_false_or_eq_true (decide (6144 < ((q : Nat) : Int))) with hb_61 | hb_61
      · try rw [hb_61]
        have hqhb_61 := of_decide_eq_true hb_61
        refine CW.region ?_
        refine SL.v (.int .i64 ((q : Nat) : Int)) ?_
        refine SL.makeU8 (m := q) hs_60 rfl rfl rfl rfl (by omega) (fun g_62 w_63 hs_64 => ?_)
        have hs_64 : SH [] w w_63 [pt g_55 #[.map ob_56] 35, oH ob_56 n D, pt g_4 #[.map ob] 35, oH ob n D, pt g_62 (bcells (zerosL q)).toArray 5] := hs_64
        refine SL.val (v := .string (strOf (zerosL q))) (w' := w_63) rfl rfl (run_conv rfl (by kernel_rfl) (conv_zeros (hs_64.pt_at (i := 4) rfl))) ?_
        refine SL.callH (f := 12) (args := #[.pointer (some ⟨g_4, 0, none⟩), .int .i64 5, .bool true, .bool false, .string (strOf (zerosL q))]) (Pre := [pt g_4 #[.map ob] 35]) (Rest := [pt g_55 #[.map ob_56] 35, oH ob_56 n D, oH ob n D, pt g_62 (bcells (zerosL q)).toArray 5]) [2] hs_64 rfl rfl (by kernel_rfl) rfl ((def_clear g_4 5 (strOf (zerosL q)) (.map ob) w_63 (by decide) (by omega) (by omega) (by omega)).mono (fun v Q h => h.resolve_left (fun h_ => absurd h_.1 (by omega)))) ?_
        rintro v_ Q_ w_65 ⟨hfx, rfl, rfl⟩ hs_67
        have hs_67 : SH [] w w_65 [pt g_4 #[.map ob] 35, pt g_55 #[.map ob_56] 35, oH ob_56 n D, oH ob n D, pt g_62 (bcells (zerosL q)).toArray 5] := hs_67
        refine SL.v (.int .i64 5) ?_
        refine SL.nil ?_
        refine CW.seq ?_
        refine CW.seq ?_
        refine CW.region ?_
        refine SL.v (.int .i64 ((q : Nat) : Int)) ?_
        refine SL.val (v := .bool true) (w' := w_65) rfl rfl (run_eqv (by kernel_rfl) (congrArg Value.bool hb_61)) ?_
        refine SL.nil ?_
        refine CW.cond_true (by kernel_rfl) ?_
        refine CW.seq ?_
        refine CW.region ?_
        refine SL.v (.int .i64 5) ?_
        refine SL.v (.bool true) ?_
        refine SL.v (.bool true) ?_
        refine SL.go ?_
        refine SL.v (.pointer (some ⟨g_55, 0, none⟩)) ?_
        refine SL.go ?_
        refine SL.callH (f := 15) (args := #[.pointer (some ⟨g_4, 0, none⟩), .pointer (some ⟨g_55, 0, none⟩)]) (Pre := [pt g_4 #[.map ob] 35, oH ob n D, pt g_55 #[.map ob_56] 35, oH ob_56 n D]) (Rest := [pt g_62 (bcells (zerosL q)).toArray 5]) [0, 2, 0, 0] hs_67 rfl rfl (by kernel_rfl) rfl (same_o g_4 g_55 ob ob_56 n n D w_65 ho_57) ?_
        rintro v_ Q_ w_68 ⟨rfl, rfl⟩ hs_70
        have hs_70 : SH [] w w_68 [pt g_4 #[.map ob] 35, oH ob n D, pt g_55 #[.map ob_56] 35, oH ob_56 n D, pt g_62 (bcells (zerosL q)).toArray 5] := hs_70
        refine SL.v (.bool true) ?_
        refine SL.v (.bool true) ?_
        refine SL.nil ?_
        refine CW.ret ?_
        repeat with_reducible first | refine PThen.ret ?_ | refine PBlock.ret ?_
        refine PRet.tmp (t := 4) (v := .bool true) rfl rfl (by kernel_rfl) ?_
        exact ⟨rfl, hs_70.gr⟩
      · try rw [hb_61]
        have hqhb_61 := of_decide_eq_false hb_61
        refine CW.region ?_
        refine SL.v (.int .i64 ((q : Nat) : Int)) ?_
        refine SL.makeU8 (m := q) hs_60 rfl rfl rfl rfl (by omega) (fun g_71 w_72 hs_73 => ?_)
        have hs_73 : SH [] w w_72 [pt g_55 #[.map ob_56] 35, oH ob_56 n D, pt g_4 #[.map ob] 35, oH ob n D, pt g_71 (bcells (zerosL q)).toArray 5] := hs_73
        refine SL.val (v := .string (strOf (zerosL q))) (w' := w_72) rfl rfl (run_conv rfl (by kernel_rfl) (conv_zeros (hs_73.pt_at (i := 4) rfl))) ?_
        refine SL.callH (f := 12) (args := #[.pointer (some ⟨g_4, 0, none⟩), .int .i64 5, .bool true, .bool false, .string (strOf (zerosL q))]) (Pre := [pt g_4 #[.map ob] 35]) (Rest := [pt g_55 #[.map ob_56] 35, oH ob_56 n D, oH ob n D, pt g_71 (bcells (zerosL q)).toArray 5]) [2] hs_73 rfl rfl (by kernel_rfl) rfl ((def_clear g_4 5 (strOf (zerosL q)) (.map ob) w_72 (by decide) (by omega) (by omega) (by omega)).mono (fun v Q h => h.resolve_right (fun h_ => absurd h_.1 (by omega)))) ?_
        rintro v_ Q_ w_82 ⟨hf_80, rfl, b_74, c_75, E_76, hE_77, hh_78, hc_79, rfl⟩ hs_84
        have hs_84 : SH [] w w_82 [pt g_4 #[.map (some b_74)] 35, oH (some b_74) c_75 E_76, pt g_55 #[.map ob_56] 35, oH ob_56 n D, oH ob n D, pt g_71 (bcells (zerosL q)).toArray 5] := hs_84
        refine SL.v (.int .i64 0) ?_
        refine SL.nil ?_
        refine CW.seq ?_
        refine CW.seq ?_
        refine CW.region ?_
        refine SL.v (.int .i64 ((q : Nat) : Int)) ?_
        refine SL.val (v := .bool false) (w' := w_82) rfl rfl (run_eqv (by kernel_rfl) (congrArg Value.bool hb_61)) ?_
        refine SL.nil ?_
        refine CW.cond_false (by kernel_rfl) ?_
        refine CW.skip ?_
        refine CW.seq ?_
        refine CW.region ?_
        refine SL.v (.int .i64 0) ?_
        refine SL.v (.bool true) ?_
        refine SL.v (.bool true) ?_
        refine SL.go ?_
        have hk_85 := hs_84.oOk (i := 1) rfl
        refine SL.callH (f := 13) (args := #[.pointer (some ⟨g_4, 0, none⟩)]) (Pre := [pt g_4 #[.map (some b_74)] 35, oH (some b_74) c_75 E_76]) (Rest := [pt g_55 #[.map ob_56] 35, oH ob_56 n D, oH ob n D, pt g_71 (bcells (zerosL q)).toArray 5]) [0, 0] hs_84 rfl rfl (by kernel_rfl) rfl (space_o g_4 (some b_74) c_75 E_76 w_82 hk_85 (by omega)) ?_
        rintro v_ Q_ w_86 ⟨rfl, rfl⟩ hs_88
        have hs_88 : SH [] w w_86 [pt g_4 #[.map (some b_74)] 35, oH (some b_74) c_75 E_76, pt g_55 #[.map ob_56] 35, oH ob_56 n D, oH ob n D, pt g_71 (bcells (zerosL q)).toArray 5] := hs_88
        refine SL.go ?_
        refine SL.v (.int .i64 ((q : Nat) : Int)) ?_
        refine SL.go ?_
        refine SL.val (v := .int .i64 (6144 - ((q : Nat) : Int))) (w' := w_86) rfl rfl (by have hw : IntKind.i64.wrap (6144 - ((q : Nat) : Int)) = 6144 - ((q : Nat) : Int) := IntWalk.i64_in _ (by omega); exact run_eqv (by kernel_rfl) (congrArg (fun z => Value.int .i64 z) hw)) ?_
        refine SL.go ?_
        refine SL.val (v := .bool true) (w' := w_86) rfl rfl (run_eqv (by kernel_rfl) (congrArg Value.bool (show ((6144 - ((totD E_76 : Nat) : Int)) == (6144 - ((q : Nat) : Int))) = (true) from (by simp; omega)))) ?_
        refine SL.v (.bool true) ?_
        refine SL.v (.bool true) ?_
        refine SL.nil ?_
        refine CW.ret ?_
        repeat with_reducible first | refine PThen.ret ?_ | refine PBlock.ret ?_
        refine PRet.tmp (t := 4) (v := .bool true) rfl rfl (by kernel_rfl) ?_
        exact ⟨rfl, hs_88.gr⟩
  · try rw [hb_20]
    have hqhb_20 := of_decide_eq_false hb_20
    refine SL.no false ?_
    refine SL.no false ?_
    refine SL.v (.bool false) ?_
    refine SL.nil ?_
    refine CW.cond_false (by kernel_rfl) ?_
    refine CW.exit ?_
    repeat with_reducible first | refine PThen.exit ?_ | refine PBlock.out rfl ?_
    with_reducible refine PBlock.here ?_
    repeat with_reducible refine PBlock.normal ?_
    refine CW.seq ?_
    refine CW.region ?_
    refine SL.v (.int .i64 a1) ?_
    refine SL.val (v := .int .i64 (min a1 7000)) (w' := w_10) rfl rfl (run_eqv (by kernel_rfl) (congrArg (Value.int .i64) (imin a1 7000))) ?_
    refine SL.val (v := .int .i64 ((q : Nat) : Int)) (w' := w_10) rfl rfl (run_eqv (by kernel_rfl) (congrArg (Value.int .i64) ((imax 0 (min a1 7000)).trans hq))) ?_
    refine SL.v (.int .i64 ((q : Nat) : Int)) ?_
    refine SL.nil ?_
    refine CW.seq ?_
    refine CW.region ?_
    refine SL.callH (f := 14) (args := #[.pointer (some ⟨g_4, 0, none⟩)]) (Pre := [pt g_4 #[.map ob] 35, oH ob n D]) (Rest := []) [0, 0] hs_11 rfl rfl (by kernel_rfl) rfl (sclone_o g_4 ob n D w_10) ?_
    rintro v_ Q_ w_92 ⟨g_89, ob_90, rfl, ho_91, rfl⟩ hs_94
    have hs_94 : SH [] w w_92 [pt g_89 #[.map ob_90] 35, oH ob_90 n D, pt g_4 #[.map ob] 35, oH ob n D] := hs_94
    refine SL.v (.pointer (some ⟨g_89, 0, none⟩)) ?_
    refine SL.nil ?_
    refine CW.seq ?_
    rcases Bool.eq_false_or_eq_true (decide (6144 < ((q : Nat) : Int))) with hb_95 | hb_95
    · try rw [hb_95]
      have hqhb_95 := of_decide_eq_true hb_95
      refine CW.region ?_
      refine SL.v (.int .i64 ((q : Nat) : Int)) ?_
      refine SL.makeU8 (m := q) hs_94 rfl rfl rfl rfl (by omega) (fun g_96 w_97 hs_98 => ?_)
      have hs_98 : SH [] w w_97 [pt g_89 #[.map ob_90] 35, oH ob_90 n D, pt g_4 #[.map ob] 35, oH ob n D, pt g_96 (bcells (zerosL q)).toArray 5] := hs_98
      refine SL.val (v := .string (strOf (zerosL q))) (w' := w_97) rfl rfl (run_conv rfl (by kernel_rfl) (conv_zeros (hs_98.pt_at (i := 4) rfl))) ?_
      refine SL.callH (f := 12) (args := #[.pointer (some ⟨g_4, 0, none⟩), .int .i64 5, .bool true, .bool false, .string (strOf (zerosL q))]) (Pre := [pt g_4 #[.map ob] 35]) (Rest := [pt g_89 #[.map ob_90] 35, oH ob_90 n D, oH ob n D, pt g_96 (bcells (zerosL q)).toArray 5]) [2] hs_98 rfl rfl (by kernel_rfl) rfl ((def_clear g_4 5 (strOf (zerosL q)) (.map ob) w_97 (by decide) (by omega) (by omega) (by omega)).mono (fun v Q h => h.resolve_left (fun h_ => absurd h_.1 (by omega)))) ?_
      rintro v_ Q_ w_99 ⟨hfx, rfl, rfl⟩ hs_101
      have hs_101 : SH [] w w_99 [pt g_4 #[.map ob] 35, pt g_89 #[.map ob_90] 35, oH ob_90 n D, oH ob n D, pt g_96 (bcells (zerosL q)).toArray 5] := hs_101
      refine SL.v (.int .i64 5) ?_
      refine SL.nil ?_
      refine CW.seq ?_
      refine CW.seq ?_
      refine CW.region ?_
      refine SL.v (.int .i64 ((q : Nat) : Int)) ?_
      refine SL.val (v := .bool true) (w' := w_99) rfl rfl (run_eqv (by kernel_rfl) (congrArg Value.bool hb_95)) ?_
      refine SL.nil ?_
      refine CW.cond_true (by kernel_rfl) ?_
      refine CW.seq ?_
      refine CW.region ?_
      refine SL.v (.int .i64 5) ?_
      refine SL.v (.bool true) ?_
      refine SL.v (.bool true) ?_
      refine SL.go ?_
      refine SL.v (.pointer (some ⟨g_89, 0, none⟩)) ?_
      refine SL.go ?_
      refine SL.callH (f := 15) (args := #[.pointer (some ⟨g_4, 0, none⟩), .pointer (some ⟨g_89, 0, none⟩)]) (Pre := [pt g_4 #[.map ob] 35, oH ob n D, pt g_89 #[.map ob_90] 35, oH ob_90 n D]) (Rest := [pt g_96 (bcells (zerosL q)).toArray 5]) [0, 2, 0, 0] hs_101 rfl rfl (by kernel_rfl) rfl (same_o g_4 g_89 ob ob_90 n n D w_99 ho_91) ?_
      rintro v_ Q_ w_102 ⟨rfl, rfl⟩ hs_104
      have hs_104 : SH [] w w_102 [pt g_4 #[.map ob] 35, oH ob n D, pt g_89 #[.map ob_90] 35, oH ob_90 n D, pt g_96 (bcells (zerosL q)).toArray 5] := hs_104
      refine SL.v (.bool true) ?_
      refine SL.v (.bool true) ?_
      refine SL.nil ?_
      refine CW.ret ?_
      repeat with_reducible first | refine PThen.ret ?_ | refine PBlock.ret ?_
      refine PRet.tmp (t := 4) (v := .bool true) rfl rfl (by kernel_rfl) ?_
      exact ⟨rfl, hs_104.gr⟩
    · try rw [hb_95]
      have hqhb_95 := of_decide_eq_false hb_95
      refine CW.region ?_
      refine SL.v (.int .i64 ((q : Nat) : Int)) ?_
      refine SL.makeU8 (m := q) hs_94 rfl rfl rfl rfl (by omega) (fun g_105 w_106 hs_107 => ?_)
      have hs_107 : SH [] w w_106 [pt g_89 #[.map ob_90] 35, oH ob_90 n D, pt g_4 #[.map ob] 35, oH ob n D, pt g_105 (bcells (zerosL q)).toArray 5] := hs_107
      refine SL.val (v := .string (strOf (zerosL q))) (w' := w_106) rfl rfl (run_conv rfl (by kernel_rfl) (conv_zeros (hs_107.pt_at (i := 4) rfl))) ?_
      refine SL.callH (f := 12) (args := #[.pointer (some ⟨g_4, 0, none⟩), .int .i64 5, .bool true, .bool false, .string (strOf (zerosL q))]) (Pre := [pt g_4 #[.map ob] 35]) (Rest := [pt g_89 #[.map ob_90] 35, oH ob_90 n D, oH ob n D, pt g_105 (bcells (zerosL q)).toArray 5]) [2] hs_107 rfl rfl (by kernel_rfl) rfl ((def_clear g_4 5 (strOf (zerosL q)) (.map ob) w_106 (by decide) (by omega) (by omega) (by omega)).mono (fun v Q h => h.resolve_right (fun h_ => absurd h_.1 (by omega)))) ?_
      rintro v_ Q_ w_116 ⟨hf_114, rfl, b_108, c_109, E_110, hE_111, hh_112, hc_113, rfl⟩ hs_118
      have hs_118 : SH [] w w_116 [pt g_4 #[.map (some b_108)] 35, oH (some b_108) c_109 E_110, pt g_89 #[.map ob_90] 35, oH ob_90 n D, oH ob n D, pt g_105 (bcells (zerosL q)).toArray 5] := hs_118
      refine SL.v (.int .i64 0) ?_
      refine SL.nil ?_
      refine CW.seq ?_
      refine CW.seq ?_
      refine CW.region ?_
      refine SL.v (.int .i64 ((q : Nat) : Int)) ?_
      refine SL.val (v := .bool false) (w' := w_116) rfl rfl (run_eqv (by kernel_rfl) (congrArg Value.bool hb_95)) ?_
      refine SL.nil ?_
      refine CW.cond_false (by kernel_rfl) ?_
      refine CW.skip ?_
      refine CW.seq ?_
      refine CW.region ?_
      refine SL.v (.int .i64 0) ?_
      refine SL.v (.bool true) ?_
      refine SL.v (.bool true) ?_
      refine SL.go ?_
      have hk_119 := hs_118.oOk (i := 1) rfl
      refine SL.callH (f := 13) (args := #[.pointer (some ⟨g_4, 0, none⟩)]) (Pre := [pt g_4 #[.map (some b_108)] 35, oH (some b_108) c_109 E_110]) (Rest := [pt g_89 #[.map ob_90] 35, oH ob_90 n D, oH ob n D, pt g_105 (bcells (zerosL q)).toArray 5]) [0, 0] hs_118 rfl rfl (by kernel_rfl) rfl (space_o g_4 (some b_108) c_109 E_110 w_116 hk_119 (by omega)) ?_
      rintro v_ Q_ w_120 ⟨rfl, rfl⟩ hs_122
      have hs_122 : SH [] w w_120 [pt g_4 #[.map (some b_108)] 35, oH (some b_108) c_109 E_110, pt g_89 #[.map ob_90] 35, oH ob_90 n D, oH ob n D, pt g_105 (bcells (zerosL q)).toArray 5] := hs_122
      refine SL.go ?_
      refine SL.v (.int .i64 ((q : Nat) : Int)) ?_
      refine SL.go ?_
      refine SL.val (v := .int .i64 (6144 - ((q : Nat) : Int))) (w' := w_120) rfl rfl (by have hw : IntKind.i64.wrap (6144 - ((q : Nat) : Int)) = 6144 - ((q : Nat) : Int) := IntWalk.i64_in _ (by omega); exact run_eqv (by kernel_rfl) (congrArg (fun z => Value.int .i64 z) hw)) ?_
      refine SL.go ?_
      refine SL.val (v := .bool true) (w' := w_120) rfl rfl (run_eqv (by kernel_rfl) (congrArg Value.bool (show ((6144 - ((totD E_110 : Nat) : Int)) == (6144 - ((q : Nat) : Int))) = (true) from (by simp; omega)))) ?_
      refine SL.v (.bool true) ?_
      refine SL.v (.bool true) ?_
      refine SL.nil ?_
      refine CW.ret ?_
      repeat with_reducible first | refine PThen.ret ?_ | refine PBlock.ret ?_
      refine PRet.tmp (t := 4) (v := .bool true) rfl rfl (by kernel_rfl) ?_
      exact ⟨rfl, hs_122.gr⟩
theorem cell_row {w : World} {b o : Nat} {v : Value} (h : w.cell? ⟨b, o, none⟩ = some v) : ∃ C T fr, w.heap[b]? = some (.cells C T fr) ∧ C[o]? = some v := by
  unfold World.cell? at h
  simp only at h
  split at h
  · rename_i C T fr hb
    exact ⟨C, T, fr, hb, h⟩
  · cases h
theorem full_law (a0 : Option Addr) (len0 cap0 : Nat) (zs : List Int) (a1 : Int) (w : World) (hr : IsRow .i64 w a0 len0 cap0 zs) (hsh : w.ShapedOpen Try.prog) :
    Calls Try.prog 5 #[.slice a0 len0 cap0, .int .i64 a1] w fun e w' => e = .returned (.bool true) ∧ Gr w w' := by
  have hM := MaxOk.of hsh
  rcases Nat.eq_zero_or_pos len0 with rfl | hn
  · exact full_0 a0 cap0 zs a1 w hM
  · have hcap : 0 < cap0 := by
      rcases hr with ⟨_, rfl, _, _⟩ | ⟨_, _, h, _⟩
      · omega
      · omega
    obtain ⟨b, off, rfl, h1, h2, h3, h4, h5, h6⟩ := hr.plain hcap
    obtain ⟨C, T, fr, hb, _⟩ := cell_row (h5 0 hcap)
    refine full_n b off len0 cap0 C T fr zs a1 w hM hb (fun i hi => ?_) (by omega)
    obtain ⟨C', T', fr', hb', hc⟩ := cell_row (h5 i (by omega))
    rw [hb] at hb'
    simp only [Option.some.injEq, Obj.cells.injEq] at hb'
    rw [← hb'.1] at hc
    exact hc
end Go.Proofs.Ytaeppimldbknhaa
