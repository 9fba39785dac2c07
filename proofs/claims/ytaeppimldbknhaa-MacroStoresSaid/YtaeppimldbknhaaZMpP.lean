/-
  The document's list of macros, walked: Used, Get, Sum, Same (gen_mpp.py).
-/
import Derived.Test.YtaeppimldbknhaaZMpO
namespace Go.Proofs.Ytaeppimldbknhaa
set_option linter.unusedSimpArgs false
set_option linter.unusedVariables false
open Go.RowKit Go.Maps
set_option linter.unusedVariables false

set_option maxRecDepth 100000 in
set_option maxHeartbeats 4000000 in
theorem rused_tr (a : Option Addr) (c : Nat) (l : List Mac) (w : World) (hb : usedL l ≤ 1000000) (hn : l.length ≤ 1000000) : Tr Try.prog 37 #[.slice a ((l).length) c] w [rowH 77 2 a (l).length c (mcells l)] (fun v Q => v = .int .i64 ((usedL l : Nat) : Int) ∧ Q = [rowH 77 2 a (l).length c (mcells l)]) := by
  refine Tr.of fun U hs0 => ?_
  refine calls_sx (n := 20) (args := [.slice a ((l).length) c]) Try.func37 rfl rfl rfl ?_
  refine CW.seq ?_
  refine CW.region ?_
  refine SL.v (.int .i64 0) ?_
  refine SL.nil ?_
  refine CW.seq ?_
  refine CW.region ?_
  refine SL.v (.int .i64 0) ?_
  refine SL.nil ?_
  refine CW.seq ?_
  refine CW.seq ?_
  refine CW.region ?_
  refine SL.v (.int .i64 0) ?_
  refine SL.nil ?_
  refine CW.block ?_
  refine CW.loopI (fun m_ e9 w9 => ∃ (k : Nat), ∃ (t : Nat), m_ = (l).length - k ∧ SH U w w9 [rowH 77 2 a (l).length c (mcells l)] ∧ (k ≤ (l).length) ∧ (t = usedL (l.take k)) ∧ e9 0 = .slice a ((l).length) c ∧ e9 2 = .int .i64 0 ∧ e9 3 = .int .i64 ((t : Nat) : Int) ∧ e9 4 = .int .i64 ((k : Nat) : Int)) ⟨_, 0, 0, rfl, hs0, (Nat.zero_le _), rfl, (by kernel_rfl), (by kernel_rfl), (by kernel_rfl), (by kernel_rfl)⟩ ?_
  rintro m_1 e_2 w_3 ⟨k, t, hm_5, hs_4, hk, ht, hv_6, hv_7, hv_8, hv_9⟩
  obtain ⟨e_10, rfl⟩ : ∃ e_10, e_2 = put1 (put1 (put1 (put1 e_10 0 (.slice a ((l).length) c)) 2 (.int .i64 0)) 3 (.int .i64 ((t : Nat) : Int))) 4 (.int .i64 ((k : Nat) : Int)) := ⟨e_2, (put_self hv_9).trans (congrArg (fun z => put1 z 4 (.int .i64 ((k : Nat) : Int))) ((put_self hv_8).trans (congrArg (fun z => put1 z 3 (.int .i64 ((t : Nat) : Int))) ((put_self hv_7).trans (congrArg (fun z => put1 z 2 (.int .i64 0)) (put_self hv_6))))))⟩
  clear hv_6 hv_7 hv_8 hv_9
  have hu_ : k < (l).length → usedL (l.take (k + 1)) = usedL (l.take k) + (l.getD k mac0).2.length := usedL_take
  have hle_ := usedL_le l (k + 1)
  refine CW.seq ?_
  refine CW.seq ?_
  refine CW.region ?_
  refine SL.v (.int .i64 ((k : Nat) : Int)) ?_
  refine SL.v (.slice a ((l).length) c) ?_
  refine SL.val (v := .int .i64 (((l).length : Nat) : Int)) (w' := w_3) rfl rfl (by kernel_rfl) ?_
  refine SL.v (.bool (decide (((k : Nat) : Int) < (((l).length : Nat) : Int)))) ?_
  refine SL.nil ?_
  rcases Bool.eq_false_or_eq_true (decide (((k : Nat) : Int) < (((l).length : Nat) : Int))) with hb_11 | hb_11
  · try rw [hb_11]
    have hqhb_11 := of_decide_eq_true hb_11
    refine CW.cond_true (by kernel_rfl) ?_
    refine CW.skip ?_
    refine CW.seq ?_
    refine CW.block ?_
    refine CW.region ?_
    refine SL.v (.int .i64 ((t : Nat) : Int)) ?_
    refine SL.v (.slice a ((l).length) c) ?_
    refine SL.v (.int .i64 ((k : Nat) : Int)) ?_
    obtain ⟨g_12, ha_13⟩ := hs_4.row_some (i := 0) rfl (show 0 < (l).length by omega)
    refine SL.val (v := .pointer (some ⟨g_12, k * 2, none⟩)) (w' := w_3) rfl rfl (run_ixR (len := (l).length) (cap := c) (q := .i64) (I := ((k : Nat) : Int)) (i := k) (size := 2) ha_13 rfl (by kernel_rfl) (by kernel_rfl) rfl (by kernel_rfl) (by kernel_rfl) (by omega)) ?_
    refine SL.v (.pointer (some ⟨g_12, k * 2 + 1, none⟩)) ?_
    refine SL.load (g := g_12) (off := k * 2 + 1) (v := .string (bsl ((l.getD k mac0).2))) rfl rfl rfl (by kernel_rfl) (hs_4.row_blk (i := 0) ha_13 rfl) (ldV_one (by kernel_rfl) (by kernel_rfl) (hs_4.row_one (i := 0) ha_13 rfl (mcells_get (i := k) (j := 1) (by omega) rfl))) ?_
    refine SL.val (v := .int .i64 ((((l.getD k mac0).2).length : Nat) : Int)) (w' := w_3) rfl rfl (run_slen rfl (by kernel_rfl) (by kernel_rfl) (bsl_size _)) ?_
    refine SL.val (v := .int .i64 ((t + ((l.getD k mac0).2).length : Nat) : Int)) (w' := w_3) rfl rfl (by have hw : IntKind.i64.wrap (((t : Nat) : Int) + ((((l.getD k mac0).2).length : Nat) : Int)) = ((t + ((l.getD k mac0).2).length : Nat) : Int) := (IntWalk.i64_in _ (by omega)).trans (by omega); exact run_eqv (by kernel_rfl) (congrArg (fun z => Value.int .i64 z) hw)) ?_
    refine SL.v (.int .i64 ((t + ((l.getD k mac0).2).length : Nat) : Int)) ?_
    refine SL.nil ?_
    refine CW.region ?_
    refine SL.v (.int .i64 ((k : Nat) : Int)) ?_
    refine SL.val (v := .int .i64 ((k + 1 : Nat) : Int)) (w' := w_3) rfl rfl (by have hw : IntKind.i64.wrap (((k : Nat) : Int) + 1) = ((k + 1 : Nat) : Int) := (IntWalk.i64_in _ (by omega)).trans (by omega); exact run_eqv (by kernel_rfl) (congrArg (fun z => Value.int .i64 z) hw)) ?_
    refine SL.v (.int .i64 ((k + 1 : Nat) : Int)) ?_
    refine SL.nil ?_
    exact ⟨_, ⟨k + 1, t + ((l.getD k mac0).2).length, rfl, hs_4, (by omega), (by omega), (by kernel_rfl), (by kernel_rfl), (by kernel_rfl), (by kernel_rfl)⟩, by omega⟩
  · try rw [hb_11]
    have hqhb_11 := of_decide_eq_false hb_11
    refine CW.cond_false (by kernel_rfl) ?_
    refine CW.exit ?_
    repeat with_reducible first | refine PThen.exit ?_ | refine PBlock.out rfl ?_
    with_reducible refine PBlock.here ?_
    repeat with_reducible refine PBlock.normal ?_
    refine CW.seq ?_
    refine CW.region ?_
    refine SL.v (.int .i64 ((t : Nat) : Int)) ?_
    refine SL.v (.int .i64 ((t : Nat) : Int)) ?_
    refine SL.nil ?_
    refine CW.ret ?_
    repeat with_reducible first | refine PThen.ret ?_ | refine PBlock.ret ?_
    refine PRet.tmp (t := 2) (v := .int .i64 ((t : Nat) : Int)) rfl rfl (by kernel_rfl) ?_
    have hk_ : l.length ≤ k := by omega
    rw [take_all hk_] at ht
    subst ht
    exact ⟨_, _, rfl, ⟨rfl, rfl⟩, hs_4.pick [0] rfl⟩
set_option maxRecDepth 100000 in
set_option maxHeartbeats 4000000 in
theorem rget_tr (a : Option Addr) (c : Nat) (l : List Mac) (i : Int) (w : World) (hn : l.length ≤ 1000000) : Tr Try.prog 20 #[.slice a ((l).length) c, .int .i64 i] w [rowH 77 2 a (l).length c (mcells l)] (fun v Q => v = .tuple #[.string (bsl ((getL l i).getD [])), .bool (getL l i).isSome] ∧ Q = [rowH 77 2 a (l).length c (mcells l)]) := by
  refine Tr.of fun U hs0 => ?_
  refine calls_sx (n := 25) (args := [.slice a ((l).length) c, .int .i64 i]) Try.func20 rfl rfl rfl ?_
  refine CW.seq ?_
  refine CW.region ?_
  refine SL.v (.string ⟨#[]⟩) ?_
  refine SL.v (.bool false) ?_
  refine SL.nil ?_
  refine CW.seq ?_
  refine CW.seq ?_
  refine CW.region ?_
  refine SL.v (.int .i64 0) ?_
  refine SL.nil ?_
  refine CW.block ?_
  refine CW.loopI (fun m_ e9 w9 => ∃ (k : Nat), m_ = (l).length - k ∧ SH U w w9 [rowH 77 2 a (l).length c (mcells l)] ∧ (k ≤ (l).length) ∧ (∀ j, j < k → (l.getD j mac0).1 ≠ i) ∧ e9 0 = .slice a ((l).length) c ∧ e9 1 = .int .i64 i ∧ e9 4 = .string ⟨#[]⟩ ∧ e9 5 = .bool false ∧ e9 6 = .int .i64 ((k : Nat) : Int)) ⟨_, 0, rfl, hs0, (Nat.zero_le _), (fun j hj => absurd hj (Nat.not_lt_zero j)), (by kernel_rfl), (by kernel_rfl), (by kernel_rfl), (by kernel_rfl), (by kernel_rfl)⟩ ?_
  rintro m_1 e_2 w_3 ⟨k, hm_5, hs_4, hk, hno, hv_6, hv_7, hv_8, hv_9, hv_10⟩
  obtain ⟨e_11, rfl⟩ : ∃ e_11, e_2 = put1 (put1 (put1 (put1 (put1 e_11 0 (.slice a ((l).length) c)) 1 (.int .i64 i)) 4 (.string ⟨#[]⟩)) 5 (.bool false)) 6 (.int .i64 ((k : Nat) : Int)) := ⟨e_2, (put_self hv_10).trans (congrArg (fun z => put1 z 6 (.int .i64 ((k : Nat) : Int))) ((put_self hv_9).trans (congrArg (fun z => put1 z 5 (.bool false)) ((put_self hv_8).trans (congrArg (fun z => put1 z 4 (.string ⟨#[]⟩)) ((put_self hv_7).trans (congrArg (fun z => put1 z 1 (.int .i64 i)) (put_self hv_6))))))))⟩
  clear hv_6 hv_7 hv_8 hv_9 hv_10
  refine CW.seq ?_
  refine CW.seq ?_
  refine CW.region ?_
  refine SL.v (.int .i64 ((k : Nat) : Int)) ?_
  refine SL.v (.slice a ((l).length) c) ?_
  refine SL.val (v := .int .i64 (((l).length : Nat) : Int)) (w' := w_3) rfl rfl (by kernel_rfl) ?_
  refine SL.v (.bool (decide (((k : Nat) : Int) < (((l).length : Nat) : Int)))) ?_
  refine SL.nil ?_
  rcases Bool.eq_false_or_eq_true (decide (((k : Nat) : Int) < (((l).length : Nat) : Int))) with hb_12 | hb_12
  · try rw [hb_12]
    have hqhb_12 := of_decide_eq_true hb_12
    refine CW.cond_true (by kernel_rfl) ?_
    refine CW.skip ?_
    refine CW.seq ?_
    refine CW.block ?_
    refine CW.seq ?_
    refine CW.region ?_
    refine SL.v (.slice a ((l).length) c) ?_
    refine SL.v (.int .i64 ((k : Nat) : Int)) ?_
    obtain ⟨g_13, ha_14⟩ := hs_4.row_some (i := 0) rfl (show 0 < (l).length by omega)
    refine SL.val (v := .pointer (some ⟨g_13, k * 2, none⟩)) (w' := w_3) rfl rfl (run_ixR (len := (l).length) (cap := c) (q := .i64) (I := ((k : Nat) : Int)) (i := k) (size := 2) ha_14 rfl (by kernel_rfl) (by kernel_rfl) rfl (by kernel_rfl) (by kernel_rfl) (by omega)) ?_
    refine SL.v (.pointer (some ⟨g_13, k * 2, none⟩)) ?_
    refine SL.load (g := g_13) (off := k * 2) (v := .int .i64 ((l.getD k mac0).1)) rfl rfl rfl (by kernel_rfl) (hs_4.row_blk (i := 0) ha_14 rfl) (ldV_one (by kernel_rfl) (by kernel_rfl) (hs_4.row_one (i := 0) ha_14 rfl (mcells_get (i := k) (j := 0) (by omega) rfl))) ?_
    refine SL.v (.int .i64 i) ?_
    refine SL.v (.bool (((l.getD k mac0).1) == i)) ?_
    refine SL.nil ?_
    rcases Bool.eq_false_or_eq_true (((l.getD k mac0).1) == i) with hb_15 | hb_15
    · try rw [hb_15]
      refine CW.cond_true (by kernel_rfl) ?_
      refine CW.seq ?_
      refine CW.region ?_
      refine SL.v (.slice a ((l).length) c) ?_
      refine SL.v (.int .i64 ((k : Nat) : Int)) ?_
      refine SL.val (v := .pointer (some ⟨g_13, k * 2, none⟩)) (w' := w_3) rfl rfl (run_ixR (len := (l).length) (cap := c) (q := .i64) (I := ((k : Nat) : Int)) (i := k) (size := 2) ha_14 rfl (by kernel_rfl) (by kernel_rfl) rfl (by kernel_rfl) (by kernel_rfl) (by omega)) ?_
      refine SL.v (.pointer (some ⟨g_13, k * 2 + 1, none⟩)) ?_
      refine SL.load (g := g_13) (off := k * 2 + 1) (v := .string (bsl ((l.getD k mac0).2))) rfl rfl rfl (by kernel_rfl) (hs_4.row_blk (i := 0) ha_14 rfl) (ldV_one (by kernel_rfl) (by kernel_rfl) (hs_4.row_one (i := 0) ha_14 rfl (mcells_get (i := k) (j := 1) (by omega) rfl))) ?_
      refine SL.v (.string (bsl ((l.getD k mac0).2))) ?_
      refine SL.v (.bool true) ?_
      refine SL.nil ?_
      refine CW.ret ?_
      repeat with_reducible first | refine PThen.ret ?_ | refine PBlock.ret ?_
      refine PRet.tmp2 (t := 4) (u := 5) (v := .string (bsl ((l.getD k mac0).2))) (v' := .bool true) rfl rfl rfl (by kernel_rfl) (by kernel_rfl) ?_
      have hg_ := getL_at (k := k) (by omega) hno (by simpa using hb_15)
      rw [hg_]
      exact ⟨_, _, rfl, ⟨rfl, rfl⟩, hs_4.pick [0] rfl⟩
    · try rw [hb_15]
      refine CW.cond_false (by kernel_rfl) ?_
      refine CW.skip ?_
      refine CW.region ?_
      refine SL.v (.int .i64 ((k : Nat) : Int)) ?_
      refine SL.val (v := .int .i64 ((k + 1 : Nat) : Int)) (w' := w_3) rfl rfl (by have hw : IntKind.i64.wrap (((k : Nat) : Int) + 1) = ((k + 1 : Nat) : Int) := (IntWalk.i64_in _ (by omega)).trans (by omega); exact run_eqv (by kernel_rfl) (congrArg (fun z => Value.int .i64 z) hw)) ?_
      refine SL.v (.int .i64 ((k + 1 : Nat) : Int)) ?_
      refine SL.nil ?_
      exact ⟨_, ⟨k + 1, rfl, hs_4, (by omega), (fun j hj => by rcases Nat.lt_succ_iff_lt_or_eq.1 hj with h_ | rfl; exact hno j h_; simpa using hb_15), (by kernel_rfl), (by kernel_rfl), (by kernel_rfl), (by kernel_rfl), (by kernel_rfl)⟩, by omega⟩
  · try rw [hb_12]
    have hqhb_12 := of_decide_eq_false hb_12
    refine CW.cond_false (by kernel_rfl) ?_
    refine CW.exit ?_
    repeat with_reducible first | refine PThen.exit ?_ | refine PBlock.out rfl ?_
    with_reducible refine PBlock.here ?_
    repeat with_reducible refine PBlock.normal ?_
    refine CW.seq ?_
    refine CW.region ?_
    refine SL.v (.string ⟨#[]⟩) ?_
    refine SL.v (.bool false) ?_
    refine SL.nil ?_
    refine CW.ret ?_
    repeat with_reducible first | refine PThen.ret ?_ | refine PBlock.ret ?_
    refine PRet.tmp2 (t := 4) (u := 5) (v := .string ⟨#[]⟩) (v' := .bool false) rfl rfl rfl (by kernel_rfl) (by kernel_rfl) ?_
    have hg_ : getL l i = none := getL_none fun j hj => hno j (by omega)
    rw [hg_]
    exact ⟨_, _, rfl, ⟨rfl, rfl⟩, hs_4.pick [0] rfl⟩
set_option maxRecDepth 100000 in
set_option maxHeartbeats 4000000 in
theorem rsum_tr (a : Option Addr) (c : Nat) (l : List Mac) (w : World) (hn : l.length ≤ 1000000) (hs : ∀ k, (l.getD k mac0).2.length ≤ 1000000) : Tr Try.prog 39 #[.slice a ((l).length) c] w [rowH 77 2 a (l).length c (mcells l)] (fun v Q => v = .int .i64 ((sumL l % 65536 : Nat) : Int) ∧ Q = [rowH 77 2 a (l).length c (mcells l)]) := by
  refine Tr.of fun U hs0 => ?_
  refine calls_sx (n := 34) (args := [.slice a ((l).length) c]) Try.func39 rfl rfl rfl ?_
  refine CW.seq ?_
  refine CW.region ?_
  refine SL.v (.int .i64 0) ?_
  refine SL.nil ?_
  refine CW.seq ?_
  refine CW.region ?_
  refine SL.v (.int .i64 0) ?_
  refine SL.nil ?_
  refine CW.seq ?_
  refine CW.seq ?_
  refine CW.region ?_
  refine SL.v (.int .i64 0) ?_
  refine SL.nil ?_
  refine CW.block ?_
  refine CW.loopI (fun m_ e9 w9 => ∃ (k : Nat), ∃ (t : Nat), m_ = (l).length - k ∧ SH U w w9 [rowH 77 2 a (l).length c (mcells l)] ∧ (k ≤ (l).length) ∧ (t = sumL (l.take k) % 65536) ∧ e9 0 = .slice a ((l).length) c ∧ e9 2 = .int .i64 0 ∧ e9 3 = .int .i64 ((t : Nat) : Int) ∧ e9 4 = .int .i64 ((k : Nat) : Int)) ⟨_, 0, 0, rfl, hs0, (Nat.zero_le _), rfl, (by kernel_rfl), (by kernel_rfl), (by kernel_rfl), (by kernel_rfl)⟩ ?_
  rintro m_1 e_2 w_3 ⟨k, t, hm_5, hs_4, hk, ht, hv_6, hv_7, hv_8, hv_9⟩
  obtain ⟨e_10, rfl⟩ : ∃ e_10, e_2 = put1 (put1 (put1 (put1 e_10 0 (.slice a ((l).length) c)) 2 (.int .i64 0)) 3 (.int .i64 ((t : Nat) : Int))) 4 (.int .i64 ((k : Nat) : Int)) := ⟨e_2, (put_self hv_9).trans (congrArg (fun z => put1 z 4 (.int .i64 ((k : Nat) : Int))) ((put_self hv_8).trans (congrArg (fun z => put1 z 3 (.int .i64 ((t : Nat) : Int))) ((put_self hv_7).trans (congrArg (fun z => put1 z 2 (.int .i64 0)) (put_self hv_6))))))⟩
  clear hv_6 hv_7 hv_8 hv_9
  have hu_ : k < (l).length → sumL (l.take (k + 1)) = sumL (l.take k) + sumB (l.getD k mac0).2 := sumL_take
  refine CW.seq ?_
  refine CW.seq ?_
  refine CW.region ?_
  refine SL.v (.int .i64 ((k : Nat) : Int)) ?_
  refine SL.v (.slice a ((l).length) c) ?_
  refine SL.val (v := .int .i64 (((l).length : Nat) : Int)) (w' := w_3) rfl rfl (by kernel_rfl) ?_
  refine SL.v (.bool (decide (((k : Nat) : Int) < (((l).length : Nat) : Int)))) ?_
  refine SL.nil ?_
  rcases Bool.eq_false_or_eq_true (decide (((k : Nat) : Int) < (((l).length : Nat) : Int))) with hb_11 | hb_11
  · try rw [hb_11]
    have hqhb_11 := of_decide_eq_true hb_11
    refine CW.cond_true (by kernel_rfl) ?_
    refine CW.skip ?_
    refine CW.seq ?_
    refine CW.block ?_
    refine CW.seq ?_
    refine CW.region ?_
    refine SL.v (.int .i64 0) ?_
    refine SL.nil ?_
    refine CW.block ?_
    refine CW.loopI (fun m_ e9 w9 => ∃ (j : Nat), ∃ (t2 : Nat), m_ = (l.getD k mac0).2.length - j ∧ SH U w w9 [rowH 77 2 a (l).length c (mcells l)] ∧ (j ≤ (l.getD k mac0).2.length) ∧ ((t2 = (sumL (l.take k) + sumB ((l.getD k mac0).2.take j)) % 65536)) ∧ e9 0 = .slice a ((l).length) c ∧ e9 2 = .int .i64 0 ∧ e9 3 = .int .i64 ((t2 : Nat) : Int) ∧ e9 4 = .int .i64 ((k : Nat) : Int) ∧ e9 5 = .int .i64 ((j : Nat) : Int) ∧ e9 9 = .bool true) ⟨_, 0, t, rfl, hs_4, (Nat.zero_le _), ht, (by kernel_rfl), (by kernel_rfl), (by kernel_rfl), (by kernel_rfl), (by kernel_rfl), (by kernel_rfl)⟩ ?_
    rintro m_12 e_13 w_14 ⟨j, t2, hm_16, hs_15, hj, ht2, hv_17, hv_18, hv_19, hv_20, hv_21, hv_22⟩
    obtain ⟨e_23, rfl⟩ : ∃ e_23, e_13 = put1 (put1 (put1 (put1 (put1 (put1 e_23 0 (.slice a ((l).length) c)) 2 (.int .i64 0)) 3 (.int .i64 ((t2 : Nat) : Int))) 4 (.int .i64 ((k : Nat) : Int))) 5 (.int .i64 ((j : Nat) : Int))) 9 (.bool true) := ⟨e_13, (put_self hv_22).trans (congrArg (fun z => put1 z 9 (.bool true)) ((put_self hv_21).trans (congrArg (fun z => put1 z 5 (.int .i64 ((j : Nat) : Int))) ((put_self hv_20).trans (congrArg (fun z => put1 z 4 (.int .i64 ((k : Nat) : Int))) ((put_self hv_19).trans (congrArg (fun z => put1 z 3 (.int .i64 ((t2 : Nat) : Int))) ((put_self hv_18).trans (congrArg (fun z => put1 z 2 (.int .i64 0)) (put_self hv_17))))))))))⟩
    clear hv_17 hv_18 hv_19 hv_20 hv_21 hv_22
    have hs_ := hs k
    have hv_ : j < (l.getD k mac0).2.length → sumB ((l.getD k mac0).2.take (j + 1)) = sumB ((l.getD k mac0).2.take j) + ((l.getD k mac0).2.getD j 0).toNat := sumB_take
    have hb_ : ((l.getD k mac0).2.getD j 0).toNat < 256 := UInt8.toNat_lt _
    have hsb_ : (l.getD k mac0).2.length ≤ j → sumB ((l.getD k mac0).2.take j) = sumB (l.getD k mac0).2 := sumB_all
    refine CW.seq ?_
    refine CW.seq ?_
    refine CW.region ?_
    refine SL.v (.int .i64 ((j : Nat) : Int)) ?_
    refine SL.v (.slice a ((l).length) c) ?_
    refine SL.v (.int .i64 ((k : Nat) : Int)) ?_
    obtain ⟨g_24, ha_25⟩ := hs_15.row_some (i := 0) rfl (show 0 < (l).length by omega)
    refine SL.val (v := .pointer (some ⟨g_24, k * 2, none⟩)) (w' := w_14) rfl rfl (run_ixR (len := (l).length) (cap := c) (q := .i64) (I := ((k : Nat) : Int)) (i := k) (size := 2) ha_25 rfl (by kernel_rfl) (by kernel_rfl) rfl (by kernel_rfl) (by kernel_rfl) (by omega)) ?_
    refine SL.v (.pointer (some ⟨g_24, k * 2 + 1, none⟩)) ?_
    refine SL.load (g := g_24) (off := k * 2 + 1) (v := .string (bsl ((l.getD k mac0).2))) rfl rfl rfl (by kernel_rfl) (hs_15.row_blk (i := 0) ha_25 rfl) (ldV_one (by kernel_rfl) (by kernel_rfl) (hs_15.row_one (i := 0) ha_25 rfl (mcells_get (i := k) (j := 1) (by omega) rfl))) ?_
    refine SL.val (v := .int .i64 ((((l.getD k mac0).2).length : Nat) : Int)) (w' := w_14) rfl rfl (run_slen rfl (by kernel_rfl) (by kernel_rfl) (bsl_size _)) ?_
    refine SL.v (.bool (decide (((j : Nat) : Int) < ((((l.getD k mac0).2).length : Nat) : Int)))) ?_
    refine SL.nil ?_
    rcases Bool.eq_false_or_eq_true (decide (((j : Nat) : Int) < ((((l.getD k mac0).2).length : Nat) : Int))) with hb_26 | hb_26
    · try rw [hb_26]
      have hqhb_26 := of_decide_eq_true hb_26
      refine CW.cond_true (by kernel_rfl) ?_
      refine CW.skip ?_
      refine CW.seq ?_
      refine CW.block ?_
      refine CW.region ?_
      refine SL.v (.int .i64 ((t2 : Nat) : Int)) ?_
      refine SL.v (.slice a ((l).length) c) ?_
      refine SL.v (.int .i64 ((k : Nat) : Int)) ?_
      refine SL.val (v := .pointer (some ⟨g_24, k * 2, none⟩)) (w' := w_14) rfl rfl (run_ixR (len := (l).length) (cap := c) (q := .i64) (I := ((k : Nat) : Int)) (i := k) (size := 2) ha_25 rfl (by kernel_rfl) (by kernel_rfl) rfl (by kernel_rfl) (by kernel_rfl) (by omega)) ?_
      refine SL.v (.pointer (some ⟨g_24, k * 2 + 1, none⟩)) ?_
      refine SL.load (g := g_24) (off := k * 2 + 1) (v := .string (bsl ((l.getD k mac0).2))) rfl rfl rfl (by kernel_rfl) (hs_15.row_blk (i := 0) ha_25 rfl) (ldV_one (by kernel_rfl) (by kernel_rfl) (hs_15.row_one (i := 0) ha_25 rfl (mcells_get (i := k) (j := 1) (by omega) rfl))) ?_
      refine SL.v (.int .i64 ((j : Nat) : Int)) ?_
      refine SL.val (v := .int .u8 (((((l.getD k mac0).2).getD j 0).toNat : Nat) : Int)) (w' := w_14) rfl rfl (run_sidxB (q := .i64) (J := ((j : Nat) : Int)) (l := (l.getD k mac0).2) (i := j) rfl (by kernel_rfl) (by kernel_rfl) rfl (by kernel_rfl) (by omega)) ?_
      refine SL.val (v := .int .i64 (((((l.getD k mac0).2).getD j 0).toNat : Nat) : Int)) (w' := w_14) rfl rfl (by have hw : IntKind.i64.wrap ((((((l.getD k mac0).2).getD j 0).toNat : Nat) : Int)) = (((((l.getD k mac0).2).getD j 0).toNat : Nat) : Int) := IntWalk.i64_in _ (by omega); exact run_eqv (by kernel_rfl) (congrArg (fun z => Value.int .i64 z) hw)) ?_
      refine SL.val (v := .int .i64 ((t2 + (((l.getD k mac0).2).getD j 0).toNat : Nat) : Int)) (w' := w_14) rfl rfl (by have hw : IntKind.i64.wrap (((t2 : Nat) : Int) + (((((l.getD k mac0).2).getD j 0).toNat : Nat) : Int)) = ((t2 + (((l.getD k mac0).2).getD j 0).toNat : Nat) : Int) := (IntWalk.i64_in _ (by omega)).trans (by omega); exact run_eqv (by kernel_rfl) (congrArg (fun z => Value.int .i64 z) hw)) ?_
      refine SL.val (v := .int .i64 (((t2 + (((l.getD k mac0).2).getD j 0).toNat) % 65536 : Nat) : Int)) (w' := w_14) rfl rfl (run_eqv (by kernel_rfl) (congrArg (Value.int .i64) ((Int.tmod_eq_emod_of_nonneg (a := ((t2 + (((l.getD k mac0).2).getD j 0).toNat : Nat) : Int)) (b := 65536) (by omega)).trans (show (((t2 + (((l.getD k mac0).2).getD j 0).toNat : Nat) : Int) % 65536 : Int) = (((t2 + (((l.getD k mac0).2).getD j 0).toNat) % 65536 : Nat) : Int) from (by omega))))) ?_
      refine SL.v (.int .i64 (((t2 + (((l.getD k mac0).2).getD j 0).toNat) % 65536 : Nat) : Int)) ?_
      refine SL.nil ?_
      refine CW.region ?_
      refine SL.v (.int .i64 ((j : Nat) : Int)) ?_
      refine SL.val (v := .int .i64 ((j + 1 : Nat) : Int)) (w' := w_14) rfl rfl (by have hw : IntKind.i64.wrap (((j : Nat) : Int) + 1) = ((j + 1 : Nat) : Int) := (IntWalk.i64_in _ (by omega)).trans (by omega); exact run_eqv (by kernel_rfl) (congrArg (fun z => Value.int .i64 z) hw)) ?_
      refine SL.v (.int .i64 ((j + 1 : Nat) : Int)) ?_
      refine SL.nil ?_
      exact ⟨_, ⟨j + 1, (t2 + (((l.getD k mac0).2).getD j 0).toNat) % 65536, rfl, hs_15, (by omega), (by rw [hv_ (by omega)]; omega), (by kernel_rfl), (by kernel_rfl), (by kernel_rfl), (by kernel_rfl), (by kernel_rfl), (by kernel_rfl)⟩, by omega⟩
    · try rw [hb_26]
      have hqhb_26 := of_decide_eq_false hb_26
      refine CW.cond_false (by kernel_rfl) ?_
      refine CW.exit ?_
      repeat with_reducible first | refine PThen.exit ?_ | refine PBlock.out rfl ?_
      with_reducible refine PBlock.here ?_
      repeat with_reducible refine PBlock.normal ?_
      refine CW.region ?_
      refine SL.v (.int .i64 ((k : Nat) : Int)) ?_
      refine SL.val (v := .int .i64 ((k + 1 : Nat) : Int)) (w' := w_14) rfl rfl (by have hw : IntKind.i64.wrap (((k : Nat) : Int) + 1) = ((k + 1 : Nat) : Int) := (IntWalk.i64_in _ (by omega)).trans (by omega); exact run_eqv (by kernel_rfl) (congrArg (fun z => Value.int .i64 z) hw)) ?_
      refine SL.v (.int .i64 ((k + 1 : Nat) : Int)) ?_
      refine SL.nil ?_
      exact ⟨_, ⟨k + 1, t2, rfl, hs_15, (by omega), (by rw [hu_ (by omega), ← hsb_ (by omega)]; exact ht2), (by kernel_rfl), (by kernel_rfl), (by kernel_rfl), (by kernel_rfl)⟩, by omega⟩
  · try rw [hb_11]
    have hqhb_11 := of_decide_eq_false hb_11
    refine CW.cond_false (by kernel_rfl) ?_
    refine CW.exit ?_
    repeat with_reducible first | refine PThen.exit ?_ | refine PBlock.out rfl ?_
    with_reducible refine PBlock.here ?_
    repeat with_reducible refine PBlock.normal ?_
    refine CW.seq ?_
    refine CW.region ?_
    refine SL.v (.int .i64 ((t : Nat) : Int)) ?_
    refine SL.v (.int .i64 ((t : Nat) : Int)) ?_
    refine SL.nil ?_
    refine CW.ret ?_
    repeat with_reducible first | refine PThen.ret ?_ | refine PBlock.ret ?_
    refine PRet.tmp (t := 2) (v := .int .i64 ((t : Nat) : Int)) rfl rfl (by kernel_rfl) ?_
    have hk_ : l.length ≤ k := by omega
    rw [take_all hk_] at ht
    subst ht
    exact ⟨_, _, rfl, ⟨rfl, rfl⟩, hs_4.pick [0] rfl⟩
theorem same_list {l m : List Mac} (hl : l.length = m.length) (h : ∀ j, j < l.length → l.getD j mac0 = m.getD j mac0) : l = m := by
  refine List.ext_getElem hl fun j h1 h2 => ?_
  have := h j h1
  rw [List.getD_eq_getElem?_getD, List.getD_eq_getElem?_getD, List.getElem?_eq_getElem h1, List.getElem?_eq_getElem h2] at this
  exact this
set_option maxRecDepth 100000 in
set_option maxHeartbeats 4000000 in
theorem rsame_tr (a b : Option Addr) (c d : Nat) (l m : List Mac) (w : World) (hn : l.length ≤ 1000000) (hn2 : m.length ≤ 1000000) (hl : ∀ k, (Lit.int .i64 (l.getD k mac0).1).wf = true ∧ (l.getD k mac0).2.length ≤ maxLen) (hm : ∀ k, (Lit.int .i64 (m.getD k mac0).1).wf = true ∧ (m.getD k mac0).2.length ≤ maxLen) : Tr Try.prog 18 #[.slice a ((l).length) c, .slice b ((m).length) d] w [rowH 77 2 a (l).length c (mcells l), rowH 77 2 b (m).length d (mcells m)] (fun v Q => v = .bool (decide (l = m)) ∧ Q = [rowH 77 2 a (l).length c (mcells l), rowH 77 2 b (m).length d (mcells m)]) := by
  refine Tr.of fun U hs0 => ?_
  refine calls_sx (n := 26) (args := [.slice a ((l).length) c, .slice b ((m).length) d]) Try.func18 rfl rfl rfl ?_
  refine CW.seq ?_
  refine CW.region ?_
  refine SL.v (.bool false) ?_
  refine SL.nil ?_
  refine CW.seq ?_
  refine CW.seq ?_
  refine CW.region ?_
  refine SL.v (.slice a ((l).length) c) ?_
  refine SL.val (v := .int .i64 (((l).length : Nat) : Int)) (w' := w) rfl rfl (by kernel_rfl) ?_
  refine SL.v (.slice b ((m).length) d) ?_
  refine SL.val (v := .int .i64 (((m).length : Nat) : Int)) (w' := w) rfl rfl (by kernel_rfl) ?_
  refine SL.v (.bool (!((((l).length : Nat) : Int) == (((m).length : Nat) : Int)))) ?_
  refine SL.nil ?_
  rcases Bool.eq_false_or_eq_true ((((l).length : Nat) : Int) == (((m).length : Nat) : Int)) with hb_1 | hb_1
  · try rw [hb_1]
    have hlen_ : (l).length = (m).length := by have := hb_1; simp at this; omega
    refine CW.cond_false (by kernel_rfl) ?_
    refine CW.skip ?_
    refine CW.seq ?_
    refine CW.seq ?_
    refine CW.region ?_
    refine SL.v (.int .i64 0) ?_
    refine SL.nil ?_
    refine CW.block ?_
    refine CW.loopI (fun m_ e9 w9 => ∃ (k : Nat), m_ = (l).length - k ∧ SH U w w9 [rowH 77 2 a (l).length c (mcells l), rowH 77 2 b (m).length d (mcells m)] ∧ (k ≤ (l).length) ∧ (∀ j, j < k → l.getD j mac0 = m.getD j mac0) ∧ e9 0 = .slice a ((l).length) c ∧ e9 1 = .slice b ((m).length) d ∧ e9 4 = .bool false ∧ e9 5 = .int .i64 ((k : Nat) : Int)) ⟨_, 0, rfl, hs0, (Nat.zero_le _), (fun j hj => absurd hj (Nat.not_lt_zero j)), (by kernel_rfl), (by kernel_rfl), (by kernel_rfl), (by kernel_rfl)⟩ ?_
    rintro m_2 e_3 w_4 ⟨k, hm_6, hs_5, hk, hsm, hv_7, hv_8, hv_9, hv_10⟩
    obtain ⟨e_11, rfl⟩ : ∃ e_11, e_3 = put1 (put1 (put1 (put1 e_11 0 (.slice a ((l).length) c)) 1 (.slice b ((m).length) d)) 4 (.bool false)) 5 (.int .i64 ((k : Nat) : Int)) := ⟨e_3, (put_self hv_10).trans (congrArg (fun z => put1 z 5 (.int .i64 ((k : Nat) : Int))) ((put_self hv_9).trans (congrArg (fun z => put1 z 4 (.bool false)) ((put_self hv_8).trans (congrArg (fun z => put1 z 1 (.slice b ((m).length) d)) (put_self hv_7))))))⟩
    clear hv_7 hv_8 hv_9 hv_10
    refine CW.seq ?_
    refine CW.seq ?_
    refine CW.region ?_
    refine SL.v (.int .i64 ((k : Nat) : Int)) ?_
    refine SL.v (.slice a ((l).length) c) ?_
    refine SL.val (v := .int .i64 (((l).length : Nat) : Int)) (w' := w_4) rfl rfl (by kernel_rfl) ?_
    refine SL.v (.bool (decide (((k : Nat) : Int) < (((l).length : Nat) : Int)))) ?_
    refine SL.nil ?_
    rcases Bool.eq_false_or_eq_true (decide (((k : Nat) : Int) < (((l).length : Nat) : Int))) with hb_12 | hb_12
    · try rw [hb_12]
      have hqhb_12 := of_decide_eq_true hb_12
      refine CW.cond_true (by kernel_rfl) ?_
      refine CW.skip ?_
      refine CW.seq ?_
      refine CW.block ?_
      refine CW.seq ?_
      obtain ⟨g_13, ha_14⟩ := hs_5.row_some (i := 0) rfl (show 0 < (l).length by omega)
      obtain ⟨g_15, ha_16⟩ := hs_5.row_some (i := 1) rfl (show 0 < (m).length by omega)
      have HGR : GrL [fun v _ => v = .slice a ((l).length) c, fun v _ => v = .int .i64 ((k : Nat) : Int), fun v _ => v = .pointer (some ⟨g_13, k * 2, none⟩), fun v _ => v = .agg #[.int .i64 ((l.getD k mac0).1), .string (bsl ((l.getD k mac0).2))], fun v _ => v = .slice b ((m).length) d, fun v _ => v = .int .i64 ((k : Nat) : Int), fun v _ => v = .pointer (some ⟨g_15, k * 2, none⟩), fun v _ => v = .agg #[.int .i64 ((m.getD k mac0).1), .string (bsl ((m.getD k mac0).2))]] := ⟨fun _ _ _ _ h => h, ⟨fun _ _ _ _ h => h, ⟨fun _ _ _ _ h => h, ⟨fun _ _ _ _ h => h, ⟨fun _ _ _ _ h => h, ⟨fun _ _ _ _ h => h, ⟨fun _ _ _ _ h => h, ⟨fun _ _ _ _ h => h, trivial⟩⟩⟩⟩⟩⟩⟩⟩
      refine CW.draw 8 (FW [fun v _ => v = .slice a ((l).length) c, fun v _ => v = .int .i64 ((k : Nat) : Int), fun v _ => v = .pointer (some ⟨g_13, k * 2, none⟩), fun v _ => v = .agg #[.int .i64 ((l.getD k mac0).1), .string (bsl ((l.getD k mac0).2))], fun v _ => v = .slice b ((m).length) d, fun v _ => v = .int .i64 ((k : Nat) : Int), fun v _ => v = .pointer (some ⟨g_15, k * 2, none⟩), fun v _ => v = .agg #[.int .i64 ((m.getD k mac0).1), .string (bsl ((m.getD k mac0).2))]]) (fun W => Gr w_4 W) (by kernel_rfl) (by kernel_rfl) (by kernel_rfl) (by kernel_rfl) (by kernel_rfl) (Gr.refl _).drew ?_ ?_
      · refine ⟨?_, ⟨?_, ⟨?_, ⟨?_, ⟨?_, ⟨?_, ⟨?_, ⟨?_, trivial⟩⟩⟩⟩⟩⟩⟩⟩
        · intro L ys W hB hF hP K hK
          show OpE _ _ _ W K
          exact OpE.val (.slice a ((l).length) c) W (by kernel_rfl) (hK _ W hB rfl (fun _ _ h => h))
        · intro L ys W hB hF hP K hK
          show OpE _ _ _ W K
          exact OpE.val (.int .i64 ((k : Nat) : Int)) W (by kernel_rfl) (hK _ W hB rfl (fun _ _ h => h))
        · intro L ys W hB hF hP K hK
          show OpE _ _ _ W K
          exact OpE.known (j := 0) (v := .slice a ((l).length) c) (hF 0 (hP.1 rfl)) (OpE.known (j := 1) (v := .int .i64 ((k : Nat) : Int)) (hF 1 (hP.2.1 rfl)) (OpE.val (.pointer (some ⟨g_13, k * 2, none⟩)) W (run_ixR (len := (l).length) (cap := c) (q := .i64) (I := ((k : Nat) : Int)) (i := k) (size := 2) ha_14 rfl (by kernel_rfl) (by kernel_rfl) rfl (by kernel_rfl) (by kernel_rfl) (by omega)) (hK _ W hB rfl (fun _ _ h => h))))
        · intro L ys W hB hF hP K hK
          show OpE _ _ _ W K
          exact OpE.known (j := 2) (v := .pointer (some ⟨g_13, k * 2, none⟩)) (hF 2 (hP.1 rfl)) (OpE.load (g := g_13) (off := k * 2) (v := .agg #[.int .i64 ((l.getD k mac0).1), .string (bsl ((l.getD k mac0).2))]) rfl (by kernel_rfl) ((hs_5.grow hB).row_blk (i := 0) ha_14 rfl) (ldV_row (k := 2) (by kernel_rfl) (by kernel_rfl) ((hs_5.grow hB).row_many (i := 0) ha_14 rfl (mcells_part (i := k) (j := 0) (by omega) rfl rfl) rfl) rfl rfl) (hK _ W hB rfl (fun _ _ h => h)))
        · intro L ys W hB hF hP K hK
          show OpE _ _ _ W K
          exact OpE.val (.slice b ((m).length) d) W (by kernel_rfl) (hK _ W hB rfl (fun _ _ h => h))
        · intro L ys W hB hF hP K hK
          show OpE _ _ _ W K
          exact OpE.val (.int .i64 ((k : Nat) : Int)) W (by kernel_rfl) (hK _ W hB rfl (fun _ _ h => h))
        · intro L ys W hB hF hP K hK
          show OpE _ _ _ W K
          exact OpE.known (j := 4) (v := .slice b ((m).length) d) (hF 4 (hP.1 rfl)) (OpE.known (j := 5) (v := .int .i64 ((k : Nat) : Int)) (hF 5 (hP.2.1 rfl)) (OpE.val (.pointer (some ⟨g_15, k * 2, none⟩)) W (run_ixR (len := (m).length) (cap := d) (q := .i64) (I := ((k : Nat) : Int)) (i := k) (size := 2) ha_16 rfl (by kernel_rfl) (by kernel_rfl) rfl (by kernel_rfl) (by kernel_rfl) (by omega)) (hK _ W hB rfl (fun _ _ h => h))))
        · intro L ys W hB hF hP K hK
          show OpE _ _ _ W K
          exact OpE.known (j := 6) (v := .pointer (some ⟨g_15, k * 2, none⟩)) (hF 6 (hP.1 rfl)) (OpE.load (g := g_15) (off := k * 2) (v := .agg #[.int .i64 ((m.getD k mac0).1), .string (bsl ((m.getD k mac0).2))]) rfl (by kernel_rfl) ((hs_5.grow hB).row_blk (i := 1) ha_16 rfl) (ldV_row (k := 2) (by kernel_rfl) (by kernel_rfl) ((hs_5.grow hB).row_many (i := 1) ha_16 rfl (mcells_part (i := k) (j := 0) (by omega) rfl rfl) rfl) rfl rfl) (hK _ W hB rfl (fun _ _ h => h)))
      · intro ys_20 w_17 hs_18 hF_19
        have hg_21 := hs_18
        have hs_18 : SH U w w_17 [rowH 77 2 a (l).length c (mcells l), rowH 77 2 b (m).length d (mcells m)] := hs_5.grow hg_21
        refine SL.knownY (j := 3) (v := .agg #[.int .i64 ((l.getD k mac0).1), .string (bsl ((l.getD k mac0).2))]) (show ys_20 3 = .agg #[.int .i64 ((l.getD k mac0).1), .string (bsl ((l.getD k mac0).2))] from hF_19 3 (by decide)) (SL.knownY (j := 7) (v := .agg #[.int .i64 ((m.getD k mac0).1), .string (bsl ((m.getD k mac0).2))]) (show ys_20 7 = .agg #[.int .i64 ((m.getD k mac0).1), .string (bsl ((m.getD k mac0).2))] from hF_19 7 (by decide)) (?_))
        clear hF_19 HGR
        refine SL.val (v := .bool (!(decide ((l.getD k mac0) = (m.getD k mac0))))) (w' := w_17) rfl rfl (run_neq_opM (xs := #[.int .i64 ((l.getD k mac0).1), .string (bsl ((l.getD k mac0).2))]) (ys := #[.int .i64 ((m.getD k mac0).1), .string (bsl ((m.getD k mac0).2))]) (b := decide ((l.getD k mac0) = (m.getD k mac0))) rfl (by kernel_rfl) (by kernel_rfl) (by kernel_rfl) (mac_eq (l.getD k mac0) (m.getD k mac0) _ (hl k).1 (hm k).1 (hl k).2 (hm k).2)) ?_
        refine SL.nil ?_
        rcases Bool.eq_false_or_eq_true (decide ((l.getD k mac0) = (m.getD k mac0))) with hb_22 | hb_22
        · try rw [hb_22]
          have hqhb_22 := of_decide_eq_true hb_22
          refine CW.cond_false (by kernel_rfl) ?_
          refine CW.skip ?_
          refine CW.region ?_
          refine SL.v (.int .i64 ((k : Nat) : Int)) ?_
          refine SL.val (v := .int .i64 ((k + 1 : Nat) : Int)) (w' := w_17) rfl rfl (by have hw : IntKind.i64.wrap (((k : Nat) : Int) + 1) = ((k + 1 : Nat) : Int) := (IntWalk.i64_in _ (by omega)).trans (by omega); exact run_eqv (by kernel_rfl) (congrArg (fun z => Value.int .i64 z) hw)) ?_
          refine SL.v (.int .i64 ((k + 1 : Nat) : Int)) ?_
          refine SL.nil ?_
          exact ⟨_, ⟨k + 1, rfl, hs_18, (by omega), (fun j hj => by rcases Nat.lt_succ_iff_lt_or_eq.1 hj with h_ | rfl; exact hsm j h_; exact of_decide_eq_true hb_22), (by kernel_rfl), (by kernel_rfl), (by kernel_rfl), (by kernel_rfl)⟩, by omega⟩
        · try rw [hb_22]
          have hqhb_22 := of_decide_eq_false hb_22
          refine CW.cond_true (by kernel_rfl) ?_
          refine CW.seq ?_
          refine CW.region ?_
          refine SL.v (.bool false) ?_
          refine SL.nil ?_
          refine CW.ret ?_
          repeat with_reducible first | refine PThen.ret ?_ | refine PBlock.ret ?_
          refine PRet.tmp (t := 4) (v := .bool false) rfl rfl (by kernel_rfl) ?_
          have he_ : ¬ l = m := fun e_ => absurd (congrArg (fun z : List Mac => z.getD k mac0) e_) (of_decide_eq_false hb_22)
          rw [decide_eq_false he_]
          exact ⟨_, _, rfl, ⟨rfl, rfl⟩, hs_18.pick [0, 0] rfl⟩
    · try rw [hb_12]
      have hqhb_12 := of_decide_eq_false hb_12
      refine CW.cond_false (by kernel_rfl) ?_
      refine CW.exit ?_
      repeat with_reducible first | refine PThen.exit ?_ | refine PBlock.out rfl ?_
      with_reducible refine PBlock.here ?_
      repeat with_reducible refine PBlock.normal ?_
      refine CW.seq ?_
      refine CW.region ?_
      refine SL.v (.bool true) ?_
      refine SL.nil ?_
      refine CW.ret ?_
      repeat with_reducible first | refine PThen.ret ?_ | refine PBlock.ret ?_
      refine PRet.tmp (t := 4) (v := .bool true) rfl rfl (by kernel_rfl) ?_
      have he_ : l = m := same_list (by omega) fun j hj => hsm j (by omega)
      rw [decide_eq_true he_]
      exact ⟨_, _, rfl, ⟨rfl, rfl⟩, hs_5.pick [0, 0] rfl⟩
  · try rw [hb_1]
    refine CW.cond_true (by kernel_rfl) ?_
    refine CW.seq ?_
    refine CW.region ?_
    refine SL.v (.bool false) ?_
    refine SL.nil ?_
    refine CW.ret ?_
    repeat with_reducible first | refine PThen.ret ?_ | refine PBlock.ret ?_
    refine PRet.tmp (t := 4) (v := .bool false) rfl rfl (by kernel_rfl) ?_
    have he_ : ¬ l = m := fun e_ => by rw [e_] at hb_1; simp at hb_1
    rw [decide_eq_false he_]
    exact ⟨_, _, rfl, ⟨rfl, rfl⟩, hs0.pick [0, 0] rfl⟩
end Go.Proofs.Ytaeppimldbknhaa
