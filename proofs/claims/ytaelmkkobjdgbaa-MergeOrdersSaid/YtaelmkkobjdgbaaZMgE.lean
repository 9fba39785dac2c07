/-
  Sifting up and down, walked (gen_mgc.py).
  Push, Pop and Fix of the heap, walked (gen_mgd.py).
  Fix, bytes.Clone and next, walked (gen_mge.py).
-/
import Derived.Test.YtaelmkkobjdgbaaZMgB
import Derived.Test.YtaelmkkobjdgbaaZHpB
namespace Go.Proofs.Ytaelmkkobjdgbaa
set_option linter.unusedSimpArgs false
set_option linter.unusedVariables false
open Go.RowKit
set_option linter.unusedVariables false

theorem less_n (a : Option Addr) (c N : Nat) (q S : List QE) (i k : Nat) (w : World) (hN : q.length = N) (hi : i < N) (hk : k < N) (hSi : q.getD i qe0 ∈ S) (hSk : q.getD k qe0 ∈ S) : TrM (QI S) Try.prog 41 #[.slice a N c, .int .i64 ((i : Nat) : Int), .int .i64 ((k : Nat) : Int)] w [rowH 55 2 a N c (qcells q)] (fun v Q => v = .bool (keyLt (q.getD i qe0) (q.getD k qe0)) ∧ Q = [rowH 55 2 a N c (qcells q)]) := by
  subst hN; exact less_tr a c q S i k w hi hk hSi hSk
theorem swap_n (a : Option Addr) (c N : Nat) (q : List QE) (i k : Nat) (w : World) (hN : q.length = N) (hi : i < N) (hk : k < N) : Tr Try.prog 42 #[.slice a N c, .int .i64 ((i : Nat) : Int), .int .i64 ((k : Nat) : Int)] w [rowH 55 2 a N c (qcells q)] (fun v Q => v = .tuple #[] ∧ Q = [rowH 55 2 a N c (qcells (swapL q i k))]) := by
  subst hN
  refine Tr.of fun U hs0 => ?_
  obtain ⟨g, pad, rfl, hs1, hl, hc, hm⟩ := hs0.ofRow (i := 0) rfl (by omega)
  refine (hs1.call (is := [0]) rfl (swap_pt g c pad q i k w hi hk)).mono fun e w' hx => ?_
  obtain ⟨v, Q, rfl, ⟨rfl, rfl⟩, hs2⟩ := hx
  have hlen : (qcells (swapL q i k)).length = q.length * 2 := by rw [qcells_len, swapL_len]
  refine ⟨_, _, rfl, ⟨rfl, rfl⟩, hs2.toRow (i := 0) rfl hlen ?_ hc hm⟩
  rw [List.length_append, hlen]
  rw [List.length_append, qcells_len] at hl
  exact hl
theorem len_n (a : Option Addr) (c N : Nat) (w : World) : Calls Try.prog 15 #[.slice a N c] w fun e w' => e = .returned (.int .i64 ((N : Nat) : Int)) ∧ w = w' := by
  go_enter Try.func15, Try.ntmps15
  go_wp2
  go_ret
  exact ⟨rfl, rfl⟩
theorem quo_par (j : Nat) (h : j ≤ 1000000) : IntKind.i64.wrap (Int.tdiv (((j : Nat) : Int) - 1) 2) = (((j - 1) / 2 : Nat) : Int) := by
  rcases Nat.eq_zero_or_pos j with rfl | h0
  · decide
  · rw [Int.tdiv_eq_ediv_of_nonneg (by omega)]
    exact (IntWalk.i64_in _ (by omega)).trans (by omega)
set_option maxRecDepth 100000 in
set_option maxHeartbeats 4000000 in
theorem up_tr (Q : Nat) (a : Option Addr) (c N : Nat) (q S : List QE) (j : Nat) (w : World) (hN : q.length = N) (hbig : N ≤ 1000000) (hS : ∀ z, z < N → q.getD z qe0 ∈ S) (hj : j < N) (hu : HeapUp keyLt N j q) : TrM (QI S) Try.prog 18 #[.iface 53 (.pointer (some ⟨Q, 0, none⟩)), .int .i64 ((j : Nat) : Int)] w [pt Q #[.slice a N c] 51, rowH 55 2 a N c (qcells q)]
    (fun v R => v = .tuple #[] ∧ ∃ q', q'.Perm q ∧ HeapFrom keyLt 0 N q' ∧ R = [pt Q #[.slice a N c] 51, rowH 55 2 a N c (qcells q')]) := by
  refine TrM.of fun U hs0 hMU => ?_
  refine calls_sx (n := 23) (args := [.iface 53 (.pointer (some ⟨Q, 0, none⟩)), .int .i64 ((j : Nat) : Int)]) Try.func18 rfl rfl rfl ?_
  refine CW.block ?_
  refine CW.loopI (fun m_ e9 w9 => ∃ (q9 : List QE), ∃ (j9 : Nat), m_ = j9 ∧ SH U w w9 [pt Q #[.slice a N c] 51, rowH 55 2 a N c (qcells q9)] ∧ (q9.Perm q) ∧ (HeapUp keyLt N j9 q9) ∧ (j9 < N) ∧ (∀ z, z < N → q9.getD z qe0 ∈ S) ∧ e9 0 = .iface 53 (.pointer (some ⟨Q, 0, none⟩)) ∧ e9 1 = .int .i64 ((j9 : Nat) : Int)) ⟨_, q, j, rfl, hs0, (List.Perm.refl _), hu, hj, hS, (by kernel_rfl), (by kernel_rfl)⟩ ?_
  rintro m_1 e_2 w_3 ⟨q9, j9, hm_5, hs_4, hp9, hu9, hj9, hs9, hv_6, hv_7⟩
  obtain ⟨e_8, rfl⟩ : ∃ e_8, e_2 = put1 (put1 e_8 0 (.iface 53 (.pointer (some ⟨Q, 0, none⟩)))) 1 (.int .i64 ((j9 : Nat) : Int)) := ⟨e_2, (put_self hv_7).trans (congrArg (fun z => put1 z 1 (.int .i64 ((j9 : Nat) : Int))) (put_self hv_6))⟩
  clear hv_6 hv_7
  have hql9 := hp9.length_eq
  refine CW.block ?_
  refine CW.seq ?_
  refine CW.region ?_
  refine SL.v (.int .i64 ((j9 : Nat) : Int)) ?_
  refine SL.val (v := .int .i64 (((j9 : Nat) : Int) - 1)) (w' := w_3) rfl rfl (by have hw : IntKind.i64.wrap (((j9 : Nat) : Int) - 1) = ((j9 : Nat) : Int) - 1 := IntWalk.i64_in _ (by omega); exact run_eqv (by kernel_rfl) (congrArg (fun z => Value.int .i64 z) hw)) ?_
  refine SL.val (v := .int .i64 (((j9 - 1) / 2 : Nat) : Int)) (w' := w_3) rfl rfl (run_eqv (by kernel_rfl) (congrArg (Value.int .i64) (quo_par j9 (by omega)))) ?_
  refine SL.v (.int .i64 (((j9 - 1) / 2 : Nat) : Int)) ?_
  refine SL.nil ?_
  refine CW.seq ?_
  refine CW.seq ?_
  refine CW.region ?_
  refine SL.v (.int .i64 (((j9 - 1) / 2 : Nat) : Int)) ?_
  refine SL.v (.int .i64 ((j9 : Nat) : Int)) ?_
  refine SL.v (.bool ((((j9 - 1) / 2 : Nat) : Int) == ((j9 : Nat) : Int))) ?_
  refine SL.v (.bool ((((j9 - 1) / 2 : Nat) : Int) == ((j9 : Nat) : Int))) ?_
  rcases Bool.eq_false_or_eq_true ((((j9 - 1) / 2 : Nat) : Int) == ((j9 : Nat) : Int)) with hb_9 | hb_9
  · try rw [hb_9]
    have hqhb_9 := eq_of_beq hb_9
    refine SL.no true ?_
    refine SL.no true ?_
    refine SL.no true ?_
    refine SL.no true ?_
    refine SL.no true ?_
    refine SL.v (.bool true) ?_
    refine SL.nil ?_
    refine CW.cond_true (by kernel_rfl) ?_
    refine CW.exit ?_
    repeat with_reducible first | refine PThen.exit ?_ | refine PBlock.out rfl ?_
    with_reducible refine PBlock.here ?_
    repeat with_reducible refine PBlock.normal ?_
    refine PRet.none rfl ?_
    exact ⟨_, _, rfl, ⟨rfl, q9, hp9, up_done hu9 (.inl (by omega)), rfl⟩, hs_4.pick [0, 0] rfl⟩
  · try rw [hb_9]
    have hqhb_9 := beq_false_ne hb_9
    refine SL.go ?_
    refine SL.v (.iface 53 (.pointer (some ⟨Q, 0, none⟩))) ?_
    refine SL.go ?_
    refine SL.v (.int .i64 ((j9 : Nat) : Int)) ?_
    refine SL.go ?_
    refine SL.v (.int .i64 (((j9 - 1) / 2 : Nat) : Int)) ?_
    refine SL.go ?_
    refine SL.callHM (hI := hMU) (f := 41) (args := #[.slice a N c, .int .i64 ((j9 : Nat) : Int), .int .i64 (((j9 - 1) / 2 : Nat) : Int)]) (Pre := [rowH 55 2 a N c (qcells q9)]) (Rest := [pt Q #[.slice a N c] 51]) [1] hs_4 rfl rfl (run_inv (av := #[.int .i64 ((j9 : Nat) : Int), .int .i64 (((j9 - 1) / 2 : Nat) : Int)]) rfl rfl (by kernel_rfl) (run_inv_val (fuel := 188) (E := 51) (v := .slice a N c) (av := #[.int .i64 ((j9 : Nat) : Int), .int .i64 (((j9 - 1) / 2 : Nat) : Int)]) rfl rfl rfl rfl rfl rfl (hs_4.pt_at (i := 0) rfl) (by kernel_rfl) (by kernel_rfl))) rfl (less_n a c N q9 S j9 ((j9 - 1) / 2) w_3 (hp9.length_eq.trans hN) (by omega) (by omega) (hs9 _ (by omega)) (hs9 _ (by omega))) ?_
    rintro v_ Q_ w_10 ⟨rfl, rfl⟩ hs_12
    have hs_12 : SH U w w_10 [rowH 55 2 a N c (qcells q9), pt Q #[.slice a N c] 51] := hs_12
    refine SL.go ?_
    refine SL.v (.bool (!(keyLt (q9.getD j9 qe0) (q9.getD ((j9 - 1) / 2) qe0)))) ?_
    refine SL.v (.bool (!(keyLt (q9.getD j9 qe0) (q9.getD ((j9 - 1) / 2) qe0)))) ?_
    refine SL.nil ?_
    rcases Bool.eq_false_or_eq_true (keyLt (q9.getD j9 qe0) (q9.getD ((j9 - 1) / 2) qe0)) with hb_13 | hb_13
    · try rw [hb_13]
      refine CW.cond_false (by kernel_rfl) ?_
      refine CW.skip ?_
      refine CW.seq ?_
      refine CW.region ?_
      refine SL.v (.iface 53 (.pointer (some ⟨Q, 0, none⟩))) ?_
      refine SL.v (.int .i64 (((j9 - 1) / 2 : Nat) : Int)) ?_
      refine SL.v (.int .i64 ((j9 : Nat) : Int)) ?_
      refine SL.callH (f := 42) (args := #[.slice a N c, .int .i64 (((j9 - 1) / 2 : Nat) : Int), .int .i64 ((j9 : Nat) : Int)]) (Pre := [rowH 55 2 a N c (qcells q9)]) (Rest := [pt Q #[.slice a N c] 51]) [0] hs_12 rfl rfl (run_inv (av := #[.int .i64 (((j9 - 1) / 2 : Nat) : Int), .int .i64 ((j9 : Nat) : Int)]) rfl rfl (by kernel_rfl) (run_inv_val (fuel := 188) (E := 51) (v := .slice a N c) (av := #[.int .i64 (((j9 - 1) / 2 : Nat) : Int), .int .i64 ((j9 : Nat) : Int)]) rfl rfl rfl rfl rfl rfl (hs_12.pt_at (i := 1) rfl) (by kernel_rfl) (by kernel_rfl))) rfl (swap_n a c N q9 ((j9 - 1) / 2) j9 w_10 (hp9.length_eq.trans hN) (by omega) (by omega)) ?_
      rintro v_ Q_ w_14 ⟨rfl, rfl⟩ hs_16
      have hs_16 : SH U w w_14 [rowH 55 2 a N c (qcells (swapL q9 ((j9 - 1) / 2) j9)), pt Q #[.slice a N c] 51] := hs_16
      refine SL.nil ?_
      refine CW.region ?_
      refine SL.v (.int .i64 (((j9 - 1) / 2 : Nat) : Int)) ?_
      refine SL.v (.int .i64 (((j9 - 1) / 2 : Nat) : Int)) ?_
      refine SL.nil ?_
      exact ⟨_, ⟨_, (j9 - 1) / 2, rfl, (hs_16.pick [1, 0] rfl), ((swap_perm' (by omega) (by omega) (by omega)).trans hp9), (up_step keyOrd (by omega) hj9 (by omega) hu9 (by have h_ := hb_13; exact h_)), (by omega), (swapL_mem hs9 (by omega) (by omega) (by omega)), (by kernel_rfl), (by kernel_rfl)⟩, by omega⟩
    · try rw [hb_13]
      refine CW.cond_true (by kernel_rfl) ?_
      refine CW.exit ?_
      repeat with_reducible first | refine PThen.exit ?_ | refine PBlock.out rfl ?_
      with_reducible refine PBlock.here ?_
      repeat with_reducible refine PBlock.normal ?_
      refine PRet.none rfl ?_
      exact ⟨_, _, rfl, ⟨rfl, q9, hp9, up_done hu9 (.inr (by have h_ := hb_13; exact h_)), rfl⟩, hs_12.pick [1, 0] rfl⟩
set_option maxRecDepth 100000 in
set_option maxHeartbeats 4000000 in
theorem down_tr (Q : Nat) (a : Option Addr) (c N : Nat) (q S : List QE) (i n : Nat) (w : World) (hN : q.length = N) (hbig : N ≤ 1000000) (hS : ∀ z, z < n → q.getD z qe0 ∈ S) (hn : n ≤ N) (hi : i ≤ n) (hu : HeapBut keyLt i n i q) : TrM (QI S) Try.prog 23 #[.iface 53 (.pointer (some ⟨Q, 0, none⟩)), .int .i64 ((i : Nat) : Int), .int .i64 ((n : Nat) : Int)] w [pt Q #[.slice a N c] 51, rowH 55 2 a N c (qcells q)]
    (fun v R => ∃ b, v = .bool b ∧ ∃ q', q'.Perm q ∧ HeapFrom keyLt i n q' ∧ (∀ z, n ≤ z → q'.getD z qe0 = q.getD z qe0) ∧ R = [pt Q #[.slice a N c] 51, rowH 55 2 a N c (qcells q')]) := by
  refine TrM.of fun U hs0 hMU => ?_
  refine calls_sx (n := 48) (args := [.iface 53 (.pointer (some ⟨Q, 0, none⟩)), .int .i64 ((i : Nat) : Int), .int .i64 ((n : Nat) : Int)]) Try.func23 rfl rfl rfl ?_
  refine CW.seq ?_
  refine CW.region ?_
  refine SL.v (.bool false) ?_
  refine SL.nil ?_
  refine CW.seq ?_
  refine CW.region ?_
  refine SL.v (.int .i64 ((i : Nat) : Int)) ?_
  refine SL.v (.int .i64 ((i : Nat) : Int)) ?_
  refine SL.nil ?_
  refine CW.seq ?_
  refine CW.block ?_
  refine CW.loopI (fun m_ e9 w9 => ∃ (q9 : List QE), ∃ (i9 : Nat), m_ = n - i9 ∧ SH U w w9 [pt Q #[.slice a N c] 51, rowH 55 2 a N c (qcells q9)] ∧ (q9.Perm q) ∧ (HeapBut keyLt i n i9 q9) ∧ (i ≤ i9) ∧ (i9 ≤ n) ∧ (∀ z, n ≤ z → q9.getD z qe0 = q.getD z qe0) ∧ (∀ z, z < n → q9.getD z qe0 ∈ S) ∧ e9 0 = .iface 53 (.pointer (some ⟨Q, 0, none⟩)) ∧ e9 1 = .int .i64 ((i : Nat) : Int) ∧ e9 2 = .int .i64 ((n : Nat) : Int) ∧ e9 6 = .bool false ∧ e9 7 = .int .i64 ((i9 : Nat) : Int)) ⟨_, q, i, rfl, hs0, (List.Perm.refl _), hu, (Nat.le_refl _), hi, (fun _ _ => rfl), hS, (by kernel_rfl), (by kernel_rfl), (by kernel_rfl), (by kernel_rfl), (by kernel_rfl)⟩ ?_
  rintro m_1 e_2 w_3 ⟨q9, i9, hm_5, hs_4, hp9, hu9, hlo9, hin9, he9, hs9, hv_6, hv_7, hv_8, hv_9, hv_10⟩
  obtain ⟨e_11, rfl⟩ : ∃ e_11, e_2 = put1 (put1 (put1 (put1 (put1 e_11 0 (.iface 53 (.pointer (some ⟨Q, 0, none⟩)))) 1 (.int .i64 ((i : Nat) : Int))) 2 (.int .i64 ((n : Nat) : Int))) 6 (.bool false)) 7 (.int .i64 ((i9 : Nat) : Int)) := ⟨e_2, (put_self hv_10).trans (congrArg (fun z => put1 z 7 (.int .i64 ((i9 : Nat) : Int))) ((put_self hv_9).trans (congrArg (fun z => put1 z 6 (.bool false)) ((put_self hv_8).trans (congrArg (fun z => put1 z 2 (.int .i64 ((n : Nat) : Int))) ((put_self hv_7).trans (congrArg (fun z => put1 z 1 (.int .i64 ((i : Nat) : Int))) (put_self hv_6))))))))⟩
  clear hv_6 hv_7 hv_8 hv_9 hv_10
  have hql9 := hp9.length_eq
  refine CW.block ?_
  refine CW.seq ?_
  refine CW.region ?_
  refine SL.v (.int .i64 ((i9 : Nat) : Int)) ?_
  refine SL.val (v := .int .i64 ((2 * i9 : Nat) : Int)) (w' := w_3) rfl rfl (by have hw : IntKind.i64.wrap (2 * ((i9 : Nat) : Int)) = ((2 * i9 : Nat) : Int) := (IntWalk.i64_in _ (by omega)).trans (by omega); exact run_eqv (by kernel_rfl) (congrArg (fun z => Value.int .i64 z) hw)) ?_
  refine SL.val (v := .int .i64 ((2 * i9 + 1 : Nat) : Int)) (w' := w_3) rfl rfl (by have hw : IntKind.i64.wrap (((2 * i9 : Nat) : Int) + 1) = ((2 * i9 + 1 : Nat) : Int) := (IntWalk.i64_in _ (by omega)).trans (by omega); exact run_eqv (by kernel_rfl) (congrArg (fun z => Value.int .i64 z) hw)) ?_
  refine SL.v (.int .i64 ((2 * i9 + 1 : Nat) : Int)) ?_
  refine SL.nil ?_
  refine CW.seq ?_
  refine CW.seq ?_
  refine CW.region ?_
  refine SL.v (.int .i64 ((2 * i9 + 1 : Nat) : Int)) ?_
  refine SL.v (.int .i64 ((n : Nat) : Int)) ?_
  refine SL.v (.bool (decide (((n : Nat) : Int) ≤ ((2 * i9 + 1 : Nat) : Int)))) ?_
  refine SL.v (.bool (decide (((n : Nat) : Int) ≤ ((2 * i9 + 1 : Nat) : Int)))) ?_
  rcases Bool.eq_false_or_eq_true (decide (((n : Nat) : Int) ≤ ((2 * i9 + 1 : Nat) : Int))) with hb_12 | hb_12
  · try rw [hb_12]
    have hqhb_12 := of_decide_eq_true hb_12
    refine SL.no true ?_
    refine SL.no true ?_
    refine SL.v (.bool true) ?_
    refine SL.nil ?_
    refine CW.cond_true (by kernel_rfl) ?_
    refine CW.exit ?_
    repeat with_reducible first | refine PThen.exit ?_ | refine PBlock.out rfl ?_
    with_reducible refine PBlock.here ?_
    repeat with_reducible refine PBlock.normal ?_
    refine CW.seq ?_
    refine CW.region ?_
    refine SL.v (.int .i64 ((i9 : Nat) : Int)) ?_
    refine SL.v (.int .i64 ((i : Nat) : Int)) ?_
    refine SL.v (.bool (decide (((i : Nat) : Int) < ((i9 : Nat) : Int)))) ?_
    refine SL.v (.bool (decide (((i : Nat) : Int) < ((i9 : Nat) : Int)))) ?_
    refine SL.nil ?_
    refine CW.ret ?_
    repeat with_reducible first | refine PThen.ret ?_ | refine PBlock.ret ?_
    refine PRet.tmp (t := 6) (v := .bool (decide (((i : Nat) : Int) < ((i9 : Nat) : Int)))) rfl rfl (by kernel_rfl) ?_
    exact ⟨_, _, rfl, ⟨_, rfl, q9, hp9, (down_end1 hu9 (by omega)), he9, rfl⟩, hs_4.pick [0, 0] rfl⟩
  · try rw [hb_12]
    have hqhb_12 := of_decide_eq_false hb_12
    refine SL.go ?_
    refine SL.v (.int .i64 ((2 * i9 + 1 : Nat) : Int)) ?_
    refine SL.go ?_
    refine SL.v (.bool (decide (((2 * i9 + 1 : Nat) : Int) < 0))) ?_
    refine SL.v (.bool (decide (((2 * i9 + 1 : Nat) : Int) < 0))) ?_
    refine SL.nil ?_
    have hb_13 : (decide (((2 * i9 + 1 : Nat) : Int) < 0)) = false := (decide_eq_false (by omega))
    rw [hb_13]
    have hqhb_13 := of_decide_eq_false hb_13
    refine CW.cond_false (by kernel_rfl) ?_
    refine CW.skip ?_
    refine CW.seq ?_
    refine CW.region ?_
    refine SL.v (.int .i64 ((2 * i9 + 1 : Nat) : Int)) ?_
    refine SL.v (.int .i64 ((2 * i9 + 1 : Nat) : Int)) ?_
    refine SL.nil ?_
    refine CW.seq ?_
    refine CW.seq ?_
    refine CW.region ?_
    refine SL.v (.int .i64 ((2 * i9 + 1 : Nat) : Int)) ?_
    refine SL.val (v := .int .i64 ((2 * i9 + 1 + 1 : Nat) : Int)) (w' := w_3) rfl rfl (by have hw : IntKind.i64.wrap (((2 * i9 + 1 : Nat) : Int) + 1) = ((2 * i9 + 1 + 1 : Nat) : Int) := (IntWalk.i64_in _ (by omega)).trans (by omega); exact run_eqv (by kernel_rfl) (congrArg (fun z => Value.int .i64 z) hw)) ?_
    refine SL.v (.int .i64 ((2 * i9 + 1 + 1 : Nat) : Int)) ?_
    refine SL.nil ?_
    refine CW.seq ?_
    refine CW.region ?_
    refine SL.v (.int .i64 ((2 * i9 + 1 + 1 : Nat) : Int)) ?_
    refine SL.v (.int .i64 ((n : Nat) : Int)) ?_
    refine SL.v (.bool (decide (((2 * i9 + 1 + 1 : Nat) : Int) < ((n : Nat) : Int)))) ?_
    refine SL.v (.bool (decide (((2 * i9 + 1 + 1 : Nat) : Int) < ((n : Nat) : Int)))) ?_
    rcases Bool.eq_false_or_eq_true (decide (((2 * i9 + 1 + 1 : Nat) : Int) < ((n : Nat) : Int))) with hb_14 | hb_14
    · try rw [hb_14]
      have hqhb_14 := of_decide_eq_true hb_14
      refine SL.go ?_
      refine SL.v (.iface 53 (.pointer (some ⟨Q, 0, none⟩))) ?_
      refine SL.go ?_
      refine SL.v (.int .i64 ((2 * i9 + 1 + 1 : Nat) : Int)) ?_
      refine SL.go ?_
      refine SL.v (.int .i64 ((2 * i9 + 1 : Nat) : Int)) ?_
      refine SL.go ?_
      refine SL.callHM (hI := hMU) (f := 41) (args := #[.slice a N c, .int .i64 ((2 * i9 + 1 + 1 : Nat) : Int), .int .i64 ((2 * i9 + 1 : Nat) : Int)]) (Pre := [rowH 55 2 a N c (qcells q9)]) (Rest := [pt Q #[.slice a N c] 51]) [1] hs_4 rfl rfl (run_inv (av := #[.int .i64 ((2 * i9 + 1 + 1 : Nat) : Int), .int .i64 ((2 * i9 + 1 : Nat) : Int)]) rfl rfl (by kernel_rfl) (run_inv_val (fuel := 188) (E := 51) (v := .slice a N c) (av := #[.int .i64 ((2 * i9 + 1 + 1 : Nat) : Int), .int .i64 ((2 * i9 + 1 : Nat) : Int)]) rfl rfl rfl rfl rfl rfl (hs_4.pt_at (i := 0) rfl) (by kernel_rfl) (by kernel_rfl))) rfl (less_n a c N q9 S (2 * i9 + 1 + 1) (2 * i9 + 1) w_3 (hp9.length_eq.trans hN) (by omega) (by omega) (hs9 _ (by omega)) (hs9 _ (by omega))) ?_
      rintro v_ Q_ w_15 ⟨rfl, rfl⟩ hs_17
      have hs_17 : SH U w w_15 [rowH 55 2 a N c (qcells q9), pt Q #[.slice a N c] 51] := hs_17
      refine SL.v (.bool (keyLt (q9.getD (2 * i9 + 1 + 1) qe0) (q9.getD (2 * i9 + 1) qe0))) ?_
      refine SL.nil ?_
      rcases Bool.eq_false_or_eq_true (keyLt (q9.getD (2 * i9 + 1 + 1) qe0) (q9.getD (2 * i9 + 1) qe0)) with hb_18 | hb_18
      · try rw [hb_18]
        refine CW.cond_true (by kernel_rfl) ?_
        refine CW.region ?_
        refine SL.v (.int .i64 ((2 * i9 + 1 + 1 : Nat) : Int)) ?_
        refine SL.v (.int .i64 ((2 * i9 + 1 + 1 : Nat) : Int)) ?_
        refine SL.nil ?_
        refine CW.seq ?_
        refine CW.seq ?_
        refine CW.region ?_
        refine SL.v (.iface 53 (.pointer (some ⟨Q, 0, none⟩))) ?_
        refine SL.v (.int .i64 ((2 * i9 + 1 + 1 : Nat) : Int)) ?_
        refine SL.v (.int .i64 ((i9 : Nat) : Int)) ?_
        refine SL.callHM (hI := hMU) (f := 41) (args := #[.slice a N c, .int .i64 ((2 * i9 + 1 + 1 : Nat) : Int), .int .i64 ((i9 : Nat) : Int)]) (Pre := [rowH 55 2 a N c (qcells q9)]) (Rest := [pt Q #[.slice a N c] 51]) [0] hs_17 rfl rfl (run_inv (av := #[.int .i64 ((2 * i9 + 1 + 1 : Nat) : Int), .int .i64 ((i9 : Nat) : Int)]) rfl rfl (by kernel_rfl) (run_inv_val (fuel := 188) (E := 51) (v := .slice a N c) (av := #[.int .i64 ((2 * i9 + 1 + 1 : Nat) : Int), .int .i64 ((i9 : Nat) : Int)]) rfl rfl rfl rfl rfl rfl (hs_17.pt_at (i := 1) rfl) (by kernel_rfl) (by kernel_rfl))) rfl (less_n a c N q9 S (2 * i9 + 1 + 1) i9 w_15 (hp9.length_eq.trans hN) (by omega) (by omega) (hs9 _ (by omega)) (hs9 _ (by omega))) ?_
        rintro v_ Q_ w_19 ⟨rfl, rfl⟩ hs_21
        have hs_21 : SH U w w_19 [rowH 55 2 a N c (qcells q9), pt Q #[.slice a N c] 51] := hs_21
        refine SL.v (.bool (!(keyLt (q9.getD (2 * i9 + 1 + 1) qe0) (q9.getD i9 qe0)))) ?_
        refine SL.nil ?_
        rcases Bool.eq_false_or_eq_true (keyLt (q9.getD (2 * i9 + 1 + 1) qe0) (q9.getD i9 qe0)) with hb_22 | hb_22
        · try rw [hb_22]
          refine CW.cond_false (by kernel_rfl) ?_
          refine CW.skip ?_
          refine CW.seq ?_
          refine CW.region ?_
          refine SL.v (.iface 53 (.pointer (some ⟨Q, 0, none⟩))) ?_
          refine SL.v (.int .i64 ((i9 : Nat) : Int)) ?_
          refine SL.v (.int .i64 ((2 * i9 + 1 + 1 : Nat) : Int)) ?_
          refine SL.callH (f := 42) (args := #[.slice a N c, .int .i64 ((i9 : Nat) : Int), .int .i64 ((2 * i9 + 1 + 1 : Nat) : Int)]) (Pre := [rowH 55 2 a N c (qcells q9)]) (Rest := [pt Q #[.slice a N c] 51]) [0] hs_21 rfl rfl (run_inv (av := #[.int .i64 ((i9 : Nat) : Int), .int .i64 ((2 * i9 + 1 + 1 : Nat) : Int)]) rfl rfl (by kernel_rfl) (run_inv_val (fuel := 188) (E := 51) (v := .slice a N c) (av := #[.int .i64 ((i9 : Nat) : Int), .int .i64 ((2 * i9 + 1 + 1 : Nat) : Int)]) rfl rfl rfl rfl rfl rfl (hs_21.pt_at (i := 1) rfl) (by kernel_rfl) (by kernel_rfl))) rfl (swap_n a c N q9 i9 (2 * i9 + 1 + 1) w_19 (hp9.length_eq.trans hN) (by omega) (by omega)) ?_
          rintro v_ Q_ w_23 ⟨rfl, rfl⟩ hs_25
          have hs_25 : SH U w w_23 [rowH 55 2 a N c (qcells (swapL q9 i9 (2 * i9 + 1 + 1))), pt Q #[.slice a N c] 51] := hs_25
          refine SL.nil ?_
          refine CW.region ?_
          refine SL.v (.int .i64 ((2 * i9 + 1 + 1 : Nat) : Int)) ?_
          refine SL.v (.int .i64 ((2 * i9 + 1 + 1 : Nat) : Int)) ?_
          refine SL.nil ?_
          exact ⟨_, ⟨_, 2 * i9 + 1 + 1, rfl, (hs_25.pick [1, 0] rfl), ((swap_perm' (by omega) (by omega) (by omega)).trans hp9), (down_go keyOrd (by omega) hlo9 hu9 (sel_right keyOrd key_irr (by omega) (by have h_ := hb_18; exact h_)) (by have h_ := hb_22; exact h_)), (by omega), (by omega), (fun z hz => (swapL_ne (by omega) (by omega)).trans (he9 z hz)), (swapL_mem hs9 (by omega) (by omega) (by omega)), (by kernel_rfl), (by kernel_rfl), (by kernel_rfl), (by kernel_rfl), (by kernel_rfl)⟩, by omega⟩
        · try rw [hb_22]
          refine CW.cond_true (by kernel_rfl) ?_
          refine CW.exit ?_
          repeat with_reducible first | refine PThen.exit ?_ | refine PBlock.out rfl ?_
          with_reducible refine PBlock.here ?_
          repeat with_reducible refine PBlock.normal ?_
          refine CW.seq ?_
          refine CW.region ?_
          refine SL.v (.int .i64 ((i9 : Nat) : Int)) ?_
          refine SL.v (.int .i64 ((i : Nat) : Int)) ?_
          refine SL.v (.bool (decide (((i : Nat) : Int) < ((i9 : Nat) : Int)))) ?_
          refine SL.v (.bool (decide (((i : Nat) : Int) < ((i9 : Nat) : Int)))) ?_
          refine SL.nil ?_
          refine CW.ret ?_
          repeat with_reducible first | refine PThen.ret ?_ | refine PBlock.ret ?_
          refine PRet.tmp (t := 6) (v := .bool (decide (((i : Nat) : Int) < ((i9 : Nat) : Int)))) rfl rfl (by kernel_rfl) ?_
          exact ⟨_, _, rfl, ⟨_, rfl, q9, hp9, (down_end2 keyOrd hu9 (sel_right keyOrd key_irr (by omega) (by have h_ := hb_18; exact h_)) (by have h_ := hb_22; exact h_)), he9, rfl⟩, hs_21.pick [1, 0] rfl⟩
      · try rw [hb_18]
        refine CW.cond_false (by kernel_rfl) ?_
        refine CW.skip ?_
        refine CW.seq ?_
        refine CW.seq ?_
        refine CW.region ?_
        refine SL.v (.iface 53 (.pointer (some ⟨Q, 0, none⟩))) ?_
        refine SL.v (.int .i64 ((2 * i9 + 1 : Nat) : Int)) ?_
        refine SL.v (.int .i64 ((i9 : Nat) : Int)) ?_
        refine SL.callHM (hI := hMU) (f := 41) (args := #[.slice a N c, .int .i64 ((2 * i9 + 1 : Nat) : Int), .int .i64 ((i9 : Nat) : Int)]) (Pre := [rowH 55 2 a N c (qcells q9)]) (Rest := [pt Q #[.slice a N c] 51]) [0] hs_17 rfl rfl (run_inv (av := #[.int .i64 ((2 * i9 + 1 : Nat) : Int), .int .i64 ((i9 : Nat) : Int)]) rfl rfl (by kernel_rfl) (run_inv_val (fuel := 188) (E := 51) (v := .slice a N c) (av := #[.int .i64 ((2 * i9 + 1 : Nat) : Int), .int .i64 ((i9 : Nat) : Int)]) rfl rfl rfl rfl rfl rfl (hs_17.pt_at (i := 1) rfl) (by kernel_rfl) (by kernel_rfl))) rfl (less_n a c N q9 S (2 * i9 + 1) i9 w_15 (hp9.length_eq.trans hN) (by omega) (by omega) (hs9 _ (by omega)) (hs9 _ (by omega))) ?_
        rintro v_ Q_ w_26 ⟨rfl, rfl⟩ hs_28
        have hs_28 : SH U w w_26 [rowH 55 2 a N c (qcells q9), pt Q #[.slice a N c] 51] := hs_28
        refine SL.v (.bool (!(keyLt (q9.getD (2 * i9 + 1) qe0) (q9.getD i9 qe0)))) ?_
        refine SL.nil ?_
        rcases Bool.eq_false_or_eq_true (keyLt (q9.getD (2 * i9 + 1) qe0) (q9.getD i9 qe0)) with hb_29 | hb_29
        · try rw [hb_29]
          refine CW.cond_false (by kernel_rfl) ?_
          refine CW.skip ?_
          refine CW.seq ?_
          refine CW.region ?_
          refine SL.v (.iface 53 (.pointer (some ⟨Q, 0, none⟩))) ?_
          refine SL.v (.int .i64 ((i9 : Nat) : Int)) ?_
          refine SL.v (.int .i64 ((2 * i9 + 1 : Nat) : Int)) ?_
          refine SL.callH (f := 42) (args := #[.slice a N c, .int .i64 ((i9 : Nat) : Int), .int .i64 ((2 * i9 + 1 : Nat) : Int)]) (Pre := [rowH 55 2 a N c (qcells q9)]) (Rest := [pt Q #[.slice a N c] 51]) [0] hs_28 rfl rfl (run_inv (av := #[.int .i64 ((i9 : Nat) : Int), .int .i64 ((2 * i9 + 1 : Nat) : Int)]) rfl rfl (by kernel_rfl) (run_inv_val (fuel := 188) (E := 51) (v := .slice a N c) (av := #[.int .i64 ((i9 : Nat) : Int), .int .i64 ((2 * i9 + 1 : Nat) : Int)]) rfl rfl rfl rfl rfl rfl (hs_28.pt_at (i := 1) rfl) (by kernel_rfl) (by kernel_rfl))) rfl (swap_n a c N q9 i9 (2 * i9 + 1) w_26 (hp9.length_eq.trans hN) (by omega) (by omega)) ?_
          rintro v_ Q_ w_30 ⟨rfl, rfl⟩ hs_32
          have hs_32 : SH U w w_30 [rowH 55 2 a N c (qcells (swapL q9 i9 (2 * i9 + 1))), pt Q #[.slice a N c] 51] := hs_32
          refine SL.nil ?_
          refine CW.region ?_
          refine SL.v (.int .i64 ((2 * i9 + 1 : Nat) : Int)) ?_
          refine SL.v (.int .i64 ((2 * i9 + 1 : Nat) : Int)) ?_
          refine SL.nil ?_
          exact ⟨_, ⟨_, 2 * i9 + 1, rfl, (hs_32.pick [1, 0] rfl), ((swap_perm' (by omega) (by omega) (by omega)).trans hp9), (down_go keyOrd (by omega) hlo9 hu9 (sel_left key_irr (by omega) (by have h_ := hb_18; exact h_)) (by have h_ := hb_29; exact h_)), (by omega), (by omega), (fun z hz => (swapL_ne (by omega) (by omega)).trans (he9 z hz)), (swapL_mem hs9 (by omega) (by omega) (by omega)), (by kernel_rfl), (by kernel_rfl), (by kernel_rfl), (by kernel_rfl), (by kernel_rfl)⟩, by omega⟩
        · try rw [hb_29]
          refine CW.cond_true (by kernel_rfl) ?_
          refine CW.exit ?_
          repeat with_reducible first | refine PThen.exit ?_ | refine PBlock.out rfl ?_
          with_reducible refine PBlock.here ?_
          repeat with_reducible refine PBlock.normal ?_
          refine CW.seq ?_
          refine CW.region ?_
          refine SL.v (.int .i64 ((i9 : Nat) : Int)) ?_
          refine SL.v (.int .i64 ((i : Nat) : Int)) ?_
          refine SL.v (.bool (decide (((i : Nat) : Int) < ((i9 : Nat) : Int)))) ?_
          refine SL.v (.bool (decide (((i : Nat) : Int) < ((i9 : Nat) : Int)))) ?_
          refine SL.nil ?_
          refine CW.ret ?_
          repeat with_reducible first | refine PThen.ret ?_ | refine PBlock.ret ?_
          refine PRet.tmp (t := 6) (v := .bool (decide (((i : Nat) : Int) < ((i9 : Nat) : Int)))) rfl rfl (by kernel_rfl) ?_
          exact ⟨_, _, rfl, ⟨_, rfl, q9, hp9, (down_end2 keyOrd hu9 (sel_left key_irr (by omega) (by have h_ := hb_18; exact h_)) (by have h_ := hb_29; exact h_)), he9, rfl⟩, hs_28.pick [1, 0] rfl⟩
    · try rw [hb_14]
      have hqhb_14 := of_decide_eq_false hb_14
      refine SL.no false ?_
      refine SL.no false ?_
      refine SL.no false ?_
      refine SL.no false ?_
      refine SL.v (.bool false) ?_
      refine SL.nil ?_
      refine CW.cond_false (by kernel_rfl) ?_
      refine CW.skip ?_
      refine CW.seq ?_
      refine CW.seq ?_
      refine CW.region ?_
      refine SL.v (.iface 53 (.pointer (some ⟨Q, 0, none⟩))) ?_
      refine SL.v (.int .i64 ((2 * i9 + 1 : Nat) : Int)) ?_
      refine SL.v (.int .i64 ((i9 : Nat) : Int)) ?_
      refine SL.callHM (hI := hMU) (f := 41) (args := #[.slice a N c, .int .i64 ((2 * i9 + 1 : Nat) : Int), .int .i64 ((i9 : Nat) : Int)]) (Pre := [rowH 55 2 a N c (qcells q9)]) (Rest := [pt Q #[.slice a N c] 51]) [1] hs_4 rfl rfl (run_inv (av := #[.int .i64 ((2 * i9 + 1 : Nat) : Int), .int .i64 ((i9 : Nat) : Int)]) rfl rfl (by kernel_rfl) (run_inv_val (fuel := 188) (E := 51) (v := .slice a N c) (av := #[.int .i64 ((2 * i9 + 1 : Nat) : Int), .int .i64 ((i9 : Nat) : Int)]) rfl rfl rfl rfl rfl rfl (hs_4.pt_at (i := 0) rfl) (by kernel_rfl) (by kernel_rfl))) rfl (less_n a c N q9 S (2 * i9 + 1) i9 w_3 (hp9.length_eq.trans hN) (by omega) (by omega) (hs9 _ (by omega)) (hs9 _ (by omega))) ?_
      rintro v_ Q_ w_33 ⟨rfl, rfl⟩ hs_35
      have hs_35 : SH U w w_33 [rowH 55 2 a N c (qcells q9), pt Q #[.slice a N c] 51] := hs_35
      refine SL.v (.bool (!(keyLt (q9.getD (2 * i9 + 1) qe0) (q9.getD i9 qe0)))) ?_
      refine SL.nil ?_
      rcases Bool.eq_false_or_eq_true (keyLt (q9.getD (2 * i9 + 1) qe0) (q9.getD i9 qe0)) with hb_36 | hb_36
      · try rw [hb_36]
        refine CW.cond_false (by kernel_rfl) ?_
        refine CW.skip ?_
        refine CW.seq ?_
        refine CW.region ?_
        refine SL.v (.iface 53 (.pointer (some ⟨Q, 0, none⟩))) ?_
        refine SL.v (.int .i64 ((i9 : Nat) : Int)) ?_
        refine SL.v (.int .i64 ((2 * i9 + 1 : Nat) : Int)) ?_
        refine SL.callH (f := 42) (args := #[.slice a N c, .int .i64 ((i9 : Nat) : Int), .int .i64 ((2 * i9 + 1 : Nat) : Int)]) (Pre := [rowH 55 2 a N c (qcells q9)]) (Rest := [pt Q #[.slice a N c] 51]) [0] hs_35 rfl rfl (run_inv (av := #[.int .i64 ((i9 : Nat) : Int), .int .i64 ((2 * i9 + 1 : Nat) : Int)]) rfl rfl (by kernel_rfl) (run_inv_val (fuel := 188) (E := 51) (v := .slice a N c) (av := #[.int .i64 ((i9 : Nat) : Int), .int .i64 ((2 * i9 + 1 : Nat) : Int)]) rfl rfl rfl rfl rfl rfl (hs_35.pt_at (i := 1) rfl) (by kernel_rfl) (by kernel_rfl))) rfl (swap_n a c N q9 i9 (2 * i9 + 1) w_33 (hp9.length_eq.trans hN) (by omega) (by omega)) ?_
        rintro v_ Q_ w_37 ⟨rfl, rfl⟩ hs_39
        have hs_39 : SH U w w_37 [rowH 55 2 a N c (qcells (swapL q9 i9 (2 * i9 + 1))), pt Q #[.slice a N c] 51] := hs_39
        refine SL.nil ?_
        refine CW.region ?_
        refine SL.v (.int .i64 ((2 * i9 + 1 : Nat) : Int)) ?_
        refine SL.v (.int .i64 ((2 * i9 + 1 : Nat) : Int)) ?_
        refine SL.nil ?_
        exact ⟨_, ⟨_, 2 * i9 + 1, rfl, (hs_39.pick [1, 0] rfl), ((swap_perm' (by omega) (by omega) (by omega)).trans hp9), (down_go keyOrd (by omega) hlo9 hu9 (sel_one key_irr (by omega) (by omega)) (by have h_ := hb_36; exact h_)), (by omega), (by omega), (fun z hz => (swapL_ne (by omega) (by omega)).trans (he9 z hz)), (swapL_mem hs9 (by omega) (by omega) (by omega)), (by kernel_rfl), (by kernel_rfl), (by kernel_rfl), (by kernel_rfl), (by kernel_rfl)⟩, by omega⟩
      · try rw [hb_36]
        refine CW.cond_true (by kernel_rfl) ?_
        refine CW.exit ?_
        repeat with_reducible first | refine PThen.exit ?_ | refine PBlock.out rfl ?_
        with_reducible refine PBlock.here ?_
        repeat with_reducible refine PBlock.normal ?_
        refine CW.seq ?_
        refine CW.region ?_
        refine SL.v (.int .i64 ((i9 : Nat) : Int)) ?_
        refine SL.v (.int .i64 ((i : Nat) : Int)) ?_
        refine SL.v (.bool (decide (((i : Nat) : Int) < ((i9 : Nat) : Int)))) ?_
        refine SL.v (.bool (decide (((i : Nat) : Int) < ((i9 : Nat) : Int)))) ?_
        refine SL.nil ?_
        refine CW.ret ?_
        repeat with_reducible first | refine PThen.ret ?_ | refine PBlock.ret ?_
        refine PRet.tmp (t := 6) (v := .bool (decide (((i : Nat) : Int) < ((i9 : Nat) : Int)))) rfl rfl (by kernel_rfl) ?_
        exact ⟨_, _, rfl, ⟨_, rfl, q9, hp9, (down_end2 keyOrd hu9 (sel_one key_irr (by omega) (by omega)) (by have h_ := hb_36; exact h_)), he9, rfl⟩, hs_35.pick [1, 0] rfl⟩
end Go.Proofs.Ytaelmkkobjdgbaa

namespace Go.Proofs.Ytaelmkkobjdgbaa
set_option linter.unusedSimpArgs false
set_option linter.unusedVariables false
open Go.RowKit
set_option linter.unusedVariables false

set_option maxRecDepth 100000 in
set_option maxHeartbeats 4000000 in
theorem qpush_tr (Q b off k n : Nat) (xs : List Itm) (a : Option Addr) (c : Nat) (q : List QE) (w : World) (hbig : q.length ≤ 1000000) : Tr Try.prog 44 #[.pointer (some ⟨Q, 0, none⟩), .iface 55 (.agg #[.slice (some ⟨b, off, none⟩) xs.length k, .int .i64 ((n : Nat) : Int)])] w [pt Q #[.slice a ((q).length) c] 51, rowH 55 2 a (q).length c (qcells q)] (fun v R => v = .tuple #[] ∧ ∃ a' c', R = [pt Q #[.slice a' (q ++ [((⟨b, off, k, xs, n⟩ : QE))]).length c'] 51, rowH 55 2 a' (q ++ [((⟨b, off, k, xs, n⟩ : QE))]).length c' (qcells (q ++ [((⟨b, off, k, xs, n⟩ : QE))]))]) := by
  refine Tr.of fun U hs0 => ?_
  refine calls_sx (n := 13) (args := [.pointer (some ⟨Q, 0, none⟩), .iface 55 (.agg #[.slice (some ⟨b, off, none⟩) xs.length k, .int .i64 ((n : Nat) : Int)])]) Try.func44 rfl rfl rfl ?_
  obtain ⟨fj_1, hpj_2, hfr_3⟩ := hs0.frame (Pre := [rowH 55 2 a (q).length c (qcells q)]) (Rest := [pt Q #[.slice a ((q).length) c] 51]) [1] rfl
  have HGR : GrL [fun v _ => v = .pointer (some ⟨Q, 0, none⟩), fun v _ => v = .pointer (some ⟨Q, 0, none⟩), fun v _ => v = .pointer (some ⟨Q, 0, none⟩), fun v _ => v = .slice a ((q).length) c, fun v _ => v = .iface 55 (.agg #[.slice (some ⟨b, off, none⟩) xs.length k, .int .i64 ((n : Nat) : Int)]), fun v _ => v = .agg #[.slice (some ⟨b, off, none⟩) xs.length k, .int .i64 ((n : Nat) : Int)], NewB w (fun g => .slice (some ⟨g, 0, none⟩) 1 1) (.cells #[.slice (some ⟨b, off, none⟩) xs.length k, .int .i64 ((n : Nat) : Int)] 55 (0, 0)), LeftJ fj_1 w (fun v Q => ∃ a_ c_, v = .slice a_ (q ++ [(⟨b, off, k, xs, n⟩ : QE)]).length c_ ∧ Q = [rowH 55 2 a_ (q ++ [(⟨b, off, k, xs, n⟩ : QE)]).length c_ (qcells (q ++ [(⟨b, off, k, xs, n⟩ : QE)]))])] := ⟨fun _ _ _ _ h => h, ⟨fun _ _ _ _ h => h, ⟨fun _ _ _ _ h => h, ⟨fun _ _ _ _ h => h, ⟨fun _ _ _ _ h => h, ⟨fun _ _ _ _ h => h, ⟨fun _ _ _ hg h => NewB.gr hg h, ⟨fun _ _ _ hg h => LeftJ.gr h hg, trivial⟩⟩⟩⟩⟩⟩⟩⟩
  have HUP : UpdLJ fj_1 7 0 [fun v _ => v = .pointer (some ⟨Q, 0, none⟩), fun v _ => v = .pointer (some ⟨Q, 0, none⟩), fun v _ => v = .pointer (some ⟨Q, 0, none⟩), fun v _ => v = .slice a ((q).length) c, fun v _ => v = .iface 55 (.agg #[.slice (some ⟨b, off, none⟩) xs.length k, .int .i64 ((n : Nat) : Int)]), fun v _ => v = .agg #[.slice (some ⟨b, off, none⟩) xs.length k, .int .i64 ((n : Nat) : Int)], NewB w (fun g => .slice (some ⟨g, 0, none⟩) 1 1) (.cells #[.slice (some ⟨b, off, none⟩) xs.length k, .int .i64 ((n : Nat) : Int)] 55 (0, 0)), LeftJ fj_1 w (fun v Q => ∃ a_ c_, v = .slice a_ (q ++ [(⟨b, off, k, xs, n⟩ : QE)]).length c_ ∧ Q = [rowH 55 2 a_ (q ++ [(⟨b, off, k, xs, n⟩ : QE)]).length c_ (qcells (q ++ [(⟨b, off, k, xs, n⟩ : QE)]))])] := ⟨.inr fun _ _ _ _ h => h, ⟨.inr fun _ _ _ _ h => h, ⟨.inr fun _ _ _ _ h => h, ⟨.inr fun _ _ _ _ h => h, ⟨.inr fun _ _ _ _ h => h, ⟨.inr fun _ _ _ _ h => h, ⟨.inr fun _ _ _ hu h => NewB.upd (hpj_2.live) hu h, ⟨.inl rfl, trivial⟩⟩⟩⟩⟩⟩⟩⟩
  refine CW.drawG 8 (FW [fun v _ => v = .pointer (some ⟨Q, 0, none⟩), fun v _ => v = .pointer (some ⟨Q, 0, none⟩), fun v _ => v = .pointer (some ⟨Q, 0, none⟩), fun v _ => v = .slice a ((q).length) c, fun v _ => v = .iface 55 (.agg #[.slice (some ⟨b, off, none⟩) xs.length k, .int .i64 ((n : Nat) : Int)]), fun v _ => v = .agg #[.slice (some ⟨b, off, none⟩) xs.length k, .int .i64 ((n : Nat) : Int)], NewB w (fun g => .slice (some ⟨g, 0, none⟩) 1 1) (.cells #[.slice (some ⟨b, off, none⟩) xs.length k, .int .i64 ((n : Nat) : Int)] 55 (0, 0)), LeftJ fj_1 w (fun v Q => ∃ a_ c_, v = .slice a_ (q ++ [(⟨b, off, k, xs, n⟩ : QE)]).length c_ ∧ Q = [rowH 55 2 a_ (q ++ [(⟨b, off, k, xs, n⟩ : QE)]).length c_ (qcells (q ++ [(⟨b, off, k, xs, n⟩ : QE)]))])]) (BaseJ 7 fj_1 w) (by kernel_rfl) (by kernel_rfl) (by kernel_rfl) (by kernel_rfl) (by kernel_rfl) BaseJ.init ?_ ?_
  · refine ⟨?_, ⟨?_, ⟨?_, ⟨?_, ⟨?_, ⟨?_, ⟨?_, ⟨?_, trivial⟩⟩⟩⟩⟩⟩⟩⟩
    · intro L ys W hC hn hB hF hP K hK
      show OpE _ _ _ W K
      exact OpE.val (.pointer (some ⟨Q, 0, none⟩)) W (by kernel_rfl) (hK _ W (hB.step (Gr.refl W)) rfl (fun _ _ h => h))
    · intro L ys W hC hn hB hF hP K hK
      show OpE _ _ _ W K
      exact OpE.val (.pointer (some ⟨Q, 0, none⟩)) W (by kernel_rfl) (hK _ W (hB.step (Gr.refl W)) rfl (fun _ _ h => h))
    · intro L ys W hC hn hB hF hP K hK
      show OpE _ _ _ W K
      exact OpE.known (j := 1) (v := .pointer (some ⟨Q, 0, none⟩)) (hF 1 (hP.1 rfl)) (OpE.val (.pointer (some ⟨Q, 0, none⟩)) W (by kernel_rfl) (hK _ W (hB.step (Gr.refl W)) rfl (fun _ _ h => h)))
    · intro L ys W hC hn hB hF hP K hK
      show OpE _ _ _ W K
      exact OpE.known (j := 2) (v := .pointer (some ⟨Q, 0, none⟩)) (hF 2 (hP.1 rfl)) (OpE.load (g := Q) (off := 0) (v := .slice a ((q).length) c) rfl (by kernel_rfl) ((hfr_3 W [] [] hB.1 rfl (by simp)).pt_at (i := 0) rfl) (by kernel_rfl) (hK _ W (hB.step (Gr.refl W)) rfl (fun _ _ h => h)))
    · intro L ys W hC hn hB hF hP K hK
      show OpE _ _ _ W K
      exact OpE.val (.iface 55 (.agg #[.slice (some ⟨b, off, none⟩) xs.length k, .int .i64 ((n : Nat) : Int)])) W (by kernel_rfl) (hK _ W (hB.step (Gr.refl W)) rfl (fun _ _ h => h))
    · intro L ys W hC hn hB hF hP K hK
      show OpE _ _ _ W K
      exact OpE.known (j := 4) (v := .iface 55 (.agg #[.slice (some ⟨b, off, none⟩) xs.length k, .int .i64 ((n : Nat) : Int)])) (hF 4 (hP.1 rfl)) (OpE.val (.agg #[.slice (some ⟨b, off, none⟩) xs.length k, .int .i64 ((n : Nat) : Int)]) W (by kernel_rfl) (hK _ W (hB.step (Gr.refl W)) rfl (fun _ _ h => h)))
    · intro L ys W hC hn hB hF hP K hK
      show OpE _ _ _ W K
      exact OpE.known (j := 5) (v := .agg #[.slice (some ⟨b, off, none⟩) xs.length k, .int .i64 ((n : Nat) : Int)]) (hF 5 (hP.1 rfl)) (OpE.new (mk := fun g => .slice (some ⟨g, 0, none⟩) 1 1) (C := #[.slice (some ⟨b, off, none⟩) xs.length k, .int .i64 ((n : Nat) : Int)]) (T := 55) (by kernel_rfl) (hK _ _ (hB.step ((Gr.refl W).alloc _)) ⟨W.heap.size, rfl, heap_alloc_new _ _, hB.1.size⟩ (fun _ _ h => FW.gr HGR ((Gr.refl W).alloc _) h)))
    · intro L ys W hC hn hB hF hP K hK
      obtain ⟨gq6, hvq6, hbq6, hgq6⟩ := hF 6 (hP.2.1 rfl)
      obtain ⟨a_, c_, w_, hr_, hu_, f_, hq_, hf_⟩ := run_appRH (P := Try.prog) (yv := .slice (some ⟨gq6, 0, none⟩) 1 1) (t := 51) (tx := 51) (ty := 51) (z := .agg #[.slice none 0 0, .int .i64 0]) (size := 2) (bytes := 32) (m := 1) (news := [.slice (some ⟨b, off, none⟩) xs.length k, .int .i64 ((n : Nat) : Int)]) (xs' := qcells (q ++ [(⟨b, off, k, xs, n⟩ : QE)])) (k' := (q ++ [(⟨b, off, k, xs, n⟩ : QE)]).length) (hpj_2.keep _ _ _ _ (fun g hm => (hB.2 hn).block g (hpj_2.live _ _ _ g hm))) (by kernel_rfl) (by kernel_rfl) (by kernel_rfl) (by kernel_rfl) (by kernel_rfl) (srcH (off := 0) (cs := [.slice (some ⟨b, off, none⟩) xs.length k, .int .i64 ((n : Nat) : Int)]) (el := 55) (by kernel_rfl) hbq6 rfl rfl (List.all_eq_true.1 (by kernel_rfl))) (by (try simp only [List.length_append, List.length_cons, List.length_nil]); omega) (qcells_app q ([(⟨b, off, k, xs, n⟩ : QE)])) (by simp)
      show OpE _ _ _ W K
      exact OpE.known (j := 3) (v := .slice a ((q).length) c) (hF 3 (hP.1 rfl)) (OpE.known (j := 6) (v := .slice (some ⟨gq6, 0, none⟩) 1 1) hvq6 (OpE.val (.slice a_ (q ++ [(⟨b, off, k, xs, n⟩ : QE)]).length c_) w_ (run_appop (v := .slice a ((q).length) c) (yv := .slice (some ⟨gq6, 0, none⟩) 1 1) rfl (by kernel_rfl) (by kernel_rfl) hr_) (hK _ w_ (hB.done hu_) ⟨_, f_, ⟨a_, c_, rfl, rfl⟩, hq_, fun g hg => (hf_ g hg).imp_right (Nat.le_trans hB.1.size)⟩ (fun k hk hf => FW.updJ HUP hn hk hu_ hf))))
  · intro ys_11 w_7 hb_8 hF_10
    obtain ⟨Q_, f_, ⟨a_4, c_5, hvj, rfl⟩, hq_, hf_⟩ := hF_10 7 (by decide)
    have hs_9 : SH U w w_7 [rowH 55 2 a_4 (q ++ [(⟨b, off, k, xs, n⟩ : QE)]).length c_5 (qcells (q ++ [(⟨b, off, k, xs, n⟩ : QE)])), pt Q #[.slice a ((q).length) c] 51] := hfr_3 w_7 _ f_ hb_8.1 hq_ hf_
    refine SL.knownY (j := 0) (v := .pointer (some ⟨Q, 0, none⟩)) (show ys_11 0 = .pointer (some ⟨Q, 0, none⟩) from hF_10 0 (by decide)) (SL.knownY (j := 7) (v := .slice a_4 ((q ++ [(⟨b, off, k, xs, n⟩ : QE)]).length) c_5) (show ys_11 7 = .slice a_4 ((q ++ [(⟨b, off, k, xs, n⟩ : QE)]).length) c_5 from hvj) (?_))
    clear hF_10 HGR HUP hq_ hf_ hb_8 hfr_3 hpj_2
    refine SL.v (.pointer (some ⟨Q, 0, none⟩)) ?_
    refine SL.storeH (i := 1) (g := Q) (off := 0) (v := .slice a_4 ((q ++ [(⟨b, off, k, xs, n⟩ : QE)]).length) c_5) (L' := [rowH 55 2 a_4 (q ++ [(⟨b, off, k, xs, n⟩ : QE)]).length c_5 (qcells (q ++ [(⟨b, off, k, xs, n⟩ : QE)])), pt Q #[.slice a_4 ((q ++ [(⟨b, off, k, xs, n⟩ : QE)]).length) c_5] 51]) hs_9 rfl rfl rfl (by kernel_rfl) (by kernel_rfl) rfl (by kernel_rfl) (by kernel_rfl) rfl (by kernel_rfl) rfl (fun w_12 hs_13 => ?_)
    refine SL.nil ?_
    refine PRet.none rfl ?_
    exact ⟨_, _, rfl, ⟨rfl, _, _, rfl⟩, hs_13.pick [1, 0] rfl⟩
theorem qpush_n (Q : Nat) (e : QE) (a : Option Addr) (c N : Nat) (q : List QE) (w : World) (hN : q.length = N) (hbig : N ≤ 1000000) : Tr Try.prog 44 #[.pointer (some ⟨Q, 0, none⟩), .iface 55 (.agg #[.slice (some ⟨e.b, e.off, none⟩) e.xs.length e.c, .int .i64 ((e.n : Nat) : Int)])] w [pt Q #[.slice a N c] 51, rowH 55 2 a N c (qcells q)] (fun v R => v = .tuple #[] ∧ ∃ a' c', R = [pt Q #[.slice a' (N + 1) c'] 51, rowH 55 2 a' (N + 1) c' (qcells (q ++ [e]))]) := by
  subst hN
  have h := qpush_tr Q e.b e.off e.c e.n e.xs a c q w hbig
  have e1 : (q ++ [(⟨e.b, e.off, e.c, e.xs, e.n⟩ : QE)]).length = q.length + 1 := by simp
  rw [e1] at h
  exact h
set_option maxRecDepth 100000 in
set_option maxHeartbeats 4000000 in
theorem hpush_tr (Q : Nat) (e : QE) (a : Option Addr) (c N : Nat) (q S : List QE) (w : World) (hN : q.length = N) (hbig : N ≤ 100000) (hS : ∀ z, z < N + 1 → (q ++ [e]).getD z qe0 ∈ S) (hh0 : HeapFrom keyLt 0 N q) : TrM (QI S) Try.prog 14 #[.iface 53 (.pointer (some ⟨Q, 0, none⟩)), .iface 55 (.agg #[.slice (some ⟨e.b, e.off, none⟩) e.xs.length e.c, .int .i64 ((e.n : Nat) : Int)])] w [pt Q #[.slice a N c] 51, rowH 55 2 a N c (qcells q)]
    (fun v R => v = .tuple #[] ∧ ∃ a' c' q', q'.Perm (q ++ [e]) ∧ HeapFrom keyLt 0 (N + 1) q' ∧ R = [pt Q #[.slice a' (N + 1) c'] 51, rowH 55 2 a' (N + 1) c' (qcells q')]) := by
  refine TrM.of fun U hs0 hMU => ?_
  refine calls_sx (n := 12) (args := [.iface 53 (.pointer (some ⟨Q, 0, none⟩)), .iface 55 (.agg #[.slice (some ⟨e.b, e.off, none⟩) e.xs.length e.c, .int .i64 ((e.n : Nat) : Int)])]) Try.func14 rfl rfl rfl ?_
  refine CW.seq ?_
  refine CW.region ?_
  refine SL.v (.iface 53 (.pointer (some ⟨Q, 0, none⟩))) ?_
  refine SL.v (.iface 55 (.agg #[.slice (some ⟨e.b, e.off, none⟩) e.xs.length e.c, .int .i64 ((e.n : Nat) : Int)])) ?_
  refine SL.callH (f := 44) (args := #[.pointer (some ⟨Q, 0, none⟩), .iface 55 (.agg #[.slice (some ⟨e.b, e.off, none⟩) e.xs.length e.c, .int .i64 ((e.n : Nat) : Int)])]) (Pre := [pt Q #[.slice a N c] 51, rowH 55 2 a N c (qcells q)]) (Rest := []) [0, 0] hs0 rfl rfl (run_inv (av := #[.iface 55 (.agg #[.slice (some ⟨e.b, e.off, none⟩) e.xs.length e.c, .int .i64 ((e.n : Nat) : Int)])]) rfl rfl (by kernel_rfl) (by kernel_rfl)) rfl (qpush_n Q e a c N q w hN (by omega)) ?_
  rintro v_ Q_ w_3 ⟨rfl, a_1, c_2, rfl⟩ hs_5
  have hs_5 : SH U w w_3 [pt Q #[.slice a_1 (N + 1) c_2] 51, rowH 55 2 a_1 (N + 1) c_2 (qcells (q ++ [e]))] := hs_5
  refine SL.nil ?_
  refine CW.region ?_
  refine SL.v (.iface 53 (.pointer (some ⟨Q, 0, none⟩))) ?_
  refine SL.v (.iface 53 (.pointer (some ⟨Q, 0, none⟩))) ?_
  refine SL.call (f := 15) (args := #[.slice a_1 (N + 1) c_2]) (w1 := w_3) rfl rfl (run_inv (av := #[]) rfl rfl (by kernel_rfl) (run_inv_val (fuel := 188) (E := 51) (v := .slice a_1 (N + 1) c_2) (av := #[]) rfl rfl rfl rfl rfl rfl (hs_5.pt_at (i := 0) rfl) (by kernel_rfl) (by kernel_rfl))) (len_n a_1 c_2 (N + 1) w_3) ?_
  rintro x w_6 ⟨rfl, rfl⟩
  refine ⟨.int .i64 (((N + 1) : Nat) : Int), rfl, ?_⟩
  refine SL.val (v := .int .i64 ((N : Nat) : Int)) (w' := w_3) rfl rfl (by have hw : IntKind.i64.wrap ((((N + 1) : Nat) : Int) - 1) = ((N : Nat) : Int) := (IntWalk.i64_in _ (by omega)).trans (by omega); exact run_eqv (by kernel_rfl) (congrArg (fun z => Value.int .i64 z) hw)) ?_
  refine SL.callHM (hI := hMU) (f := 18) (args := #[.iface 53 (.pointer (some ⟨Q, 0, none⟩)), .int .i64 ((N : Nat) : Int)]) (Pre := [pt Q #[.slice a_1 (N + 1) c_2] 51, rowH 55 2 a_1 (N + 1) c_2 (qcells (q ++ [e]))]) (Rest := []) [0, 0] hs_5 rfl rfl (by kernel_rfl) rfl (up_tr Q a_1 c_2 (N + 1) (q ++ [e]) S N w_3 (by simp [hN]) (by omega) hS (by omega) (heap_app hh0 hN e)) ?_
  rintro v_ Q_ w_12 ⟨rfl, q_9, hp_10, hh_11, rfl⟩ hs_14
  have hs_14 : SH U w w_12 [pt Q #[.slice a_1 (N + 1) c_2] 51, rowH 55 2 a_1 (N + 1) c_2 (qcells q_9)] := hs_14
  refine SL.nil ?_
  refine PRet.none rfl ?_
  exact ⟨_, _, rfl, ⟨rfl, _, _, q_9, hp_10, hh_11, rfl⟩, hs_14.pick [0, 0] rfl⟩
set_option maxRecDepth 100000 in
set_option maxHeartbeats 4000000 in
theorem qpop_pt (Q g c N : Nat) (pad : List Value) (q : List QE) (w : World) (hN : q.length = N + 1) (hbig : N ≤ 1000000) (hc : N + 1 ≤ c) : Tr Try.prog 43 #[.pointer (some ⟨Q, 0, none⟩)] w [pt Q #[.slice (some ⟨g, 0, none⟩) (N + 1) c] 51, pt g ⟨qcells q ++ pad⟩ 55] (fun v R => v = .iface 55 (.agg #[.slice (some ⟨(q.getD N qe0).b, (q.getD N qe0).off, none⟩) (q.getD N qe0).xs.length (q.getD N qe0).c, .int .i64 (((q.getD N qe0).n : Nat) : Int)]) ∧ R = [pt Q #[.slice (some ⟨g, 0, none⟩) N c] 51, pt g ⟨qcells q ++ pad⟩ 55]) := by
  refine Tr.of fun U hs0 => ?_
  refine calls_sx (n := 25) (args := [.pointer (some ⟨Q, 0, none⟩)]) Try.func43 rfl rfl rfl ?_
  refine CW.seq ?_
  refine CW.region ?_
  refine SL.v (.nilIface) ?_
  refine SL.nil ?_
  refine CW.seq ?_
  refine CW.region ?_
  refine SL.v (.pointer (some ⟨Q, 0, none⟩)) ?_
  refine SL.v (.pointer (some ⟨Q, 0, none⟩)) ?_
  refine SL.load (g := Q) (off := 0) (v := .slice (some ⟨g, 0, none⟩) (N + 1) c) rfl rfl rfl (by kernel_rfl) (hs0.pt_at (i := 0) rfl) (by kernel_rfl) ?_
  refine SL.val (v := .int .i64 (((N + 1) : Nat) : Int)) (w' := w) rfl rfl (by kernel_rfl) ?_
  refine SL.val (v := .int .i64 ((N : Nat) : Int)) (w' := w) rfl rfl (by have hw : IntKind.i64.wrap ((((N + 1) : Nat) : Int) - 1) = ((N : Nat) : Int) := (IntWalk.i64_in _ (by omega)).trans (by omega); exact run_eqv (by kernel_rfl) (congrArg (fun z => Value.int .i64 z) hw)) ?_
  refine SL.v (.int .i64 ((N : Nat) : Int)) ?_
  refine SL.nil ?_
  refine CW.seq ?_
  refine CW.region ?_
  refine SL.v (.pointer (some ⟨Q, 0, none⟩)) ?_
  refine SL.v (.pointer (some ⟨Q, 0, none⟩)) ?_
  refine SL.load (g := Q) (off := 0) (v := .slice (some ⟨g, 0, none⟩) (N + 1) c) rfl rfl rfl (by kernel_rfl) (hs0.pt_at (i := 0) rfl) (by kernel_rfl) ?_
  refine SL.v (.int .i64 ((N : Nat) : Int)) ?_
  refine SL.val (v := .pointer (some ⟨g, N * 2, none⟩)) (w' := w) rfl rfl ((run_ix (len := (N + 1)) (cap := c) (q := .i64) (I := ((N : Nat) : Int)) (g := g) (off := 0) (i := N) (size := 2) rfl (by kernel_rfl) (by kernel_rfl) rfl (by kernel_rfl) (by kernel_rfl) (by omega)).trans (by rw [Nat.zero_add])) ?_
  refine SL.load (g := g) (off := N * 2) (v := .agg #[.slice (some ⟨(q.getD N qe0).b, (q.getD N qe0).off, none⟩) ((q.getD N qe0).xs.length) ((q.getD N qe0).c), .int .i64 (((q.getD N qe0).n : Nat) : Int)]) rfl rfl rfl (by kernel_rfl) (hs0.pt_at (i := 1) rfl) (ldV_row (k := 2) (by kernel_rfl) (by kernel_rfl) (srow_part (qcells_part (l := q) (i := N) (j := 0) (by omega) rfl rfl) rfl) rfl rfl) ?_
  refine SL.newH (mk := fun g => .pointer (some ⟨g, 0, none⟩)) (C := #[.slice none 0 0, .int .i64 0]) (T := 55) hs0 rfl rfl (by kernel_rfl) (fun g_1 w_2 hs_3 => ?_)
  have hs_3 : SH U w w_2 [pt Q #[.slice (some ⟨g, 0, none⟩) (N + 1) c] 51, pt g ⟨qcells q ++ pad⟩ 55, pt g_1 #[.slice none 0 0, .int .i64 0] 55] := hs_3
  refine SL.storeH (i := 2) (g := g_1) (off := 0) (v := .agg #[.slice (some ⟨(q.getD N qe0).b, (q.getD N qe0).off, none⟩) ((q.getD N qe0).xs.length) ((q.getD N qe0).c), .int .i64 (((q.getD N qe0).n : Nat) : Int)]) (L' := [pt Q #[.slice (some ⟨g, 0, none⟩) (N + 1) c] 51, pt g ⟨qcells q ++ pad⟩ 55, pt g_1 #[.slice (some ⟨(q.getD N qe0).b, (q.getD N qe0).off, none⟩) ((q.getD N qe0).xs.length) ((q.getD N qe0).c), .int .i64 (((q.getD N qe0).n : Nat) : Int)] 55]) hs_3 rfl rfl rfl (by kernel_rfl) (by kernel_rfl) rfl (by kernel_rfl) (by kernel_rfl) rfl (by kernel_rfl) rfl (fun w_4 hs_5 => ?_)
  refine SL.nil ?_
  refine CW.seq ?_
  refine CW.region ?_
  refine SL.v (.pointer (some ⟨Q, 0, none⟩)) ?_
  refine SL.v (.pointer (some ⟨Q, 0, none⟩)) ?_
  refine SL.v (.pointer (some ⟨Q, 0, none⟩)) ?_
  refine SL.load (g := Q) (off := 0) (v := .slice (some ⟨g, 0, none⟩) (N + 1) c) rfl rfl rfl (by kernel_rfl) (hs_5.pt_at (i := 0) rfl) (by kernel_rfl) ?_
  refine SL.v (.int .i64 ((N : Nat) : Int)) ?_
  refine SL.val (v := .slice (some ⟨g, 0, none⟩) N c) (w' := w_4) rfl rfl (run_to (q := .i64) (I := ((N : Nat) : Int)) (g := g) (off := 0) (len := (N + 1)) (cap := c) (i := N) (size := 2) rfl (by kernel_rfl) (by kernel_rfl) rfl (by kernel_rfl) (by kernel_rfl) (by omega)) ?_
  refine SL.v (.pointer (some ⟨Q, 0, none⟩)) ?_
  refine SL.storeH (i := 0) (g := Q) (off := 0) (v := .slice (some ⟨g, 0, none⟩) N c) (L' := [pt Q #[.slice (some ⟨g, 0, none⟩) N c] 51, pt g ⟨qcells q ++ pad⟩ 55, pt g_1 #[.slice (some ⟨(q.getD N qe0).b, (q.getD N qe0).off, none⟩) ((q.getD N qe0).xs.length) ((q.getD N qe0).c), .int .i64 (((q.getD N qe0).n : Nat) : Int)] 55]) hs_5 rfl rfl rfl (by kernel_rfl) (by kernel_rfl) rfl (by kernel_rfl) (by kernel_rfl) rfl (by kernel_rfl) rfl (fun w_6 hs_7 => ?_)
  refine SL.nil ?_
  refine CW.seq ?_
  refine CW.region ?_
  refine SL.load (g := g_1) (off := 0) (v := .agg #[.slice (some ⟨(q.getD N qe0).b, (q.getD N qe0).off, none⟩) ((q.getD N qe0).xs.length) ((q.getD N qe0).c), .int .i64 (((q.getD N qe0).n : Nat) : Int)]) rfl rfl rfl (by kernel_rfl) (hs_7.pt_at (i := 2) rfl) (by kernel_rfl) ?_
  refine SL.v (.iface 55 (.agg #[.slice (some ⟨(q.getD N qe0).b, (q.getD N qe0).off, none⟩) ((q.getD N qe0).xs.length) ((q.getD N qe0).c), .int .i64 (((q.getD N qe0).n : Nat) : Int)])) ?_
  refine SL.v (.iface 55 (.agg #[.slice (some ⟨(q.getD N qe0).b, (q.getD N qe0).off, none⟩) ((q.getD N qe0).xs.length) ((q.getD N qe0).c), .int .i64 (((q.getD N qe0).n : Nat) : Int)])) ?_
  refine SL.nil ?_
  refine CW.ret ?_
  repeat with_reducible first | refine PThen.ret ?_ | refine PBlock.ret ?_
  refine PRet.tmp (t := 2) (v := .iface 55 (.agg #[.slice (some ⟨(q.getD N qe0).b, (q.getD N qe0).off, none⟩) ((q.getD N qe0).xs.length) ((q.getD N qe0).c), .int .i64 (((q.getD N qe0).n : Nat) : Int)])) rfl rfl (by kernel_rfl) ?_
  exact ⟨_, _, rfl, ⟨rfl, rfl⟩, hs_7.pick [0, 0] rfl⟩
theorem qpop_n (Q : Nat) (a : Option Addr) (c N : Nat) (q : List QE) (w : World) (hN : q.length = N + 1) (hbig : N ≤ 1000000) : Tr Try.prog 43 #[.pointer (some ⟨Q, 0, none⟩)] w [pt Q #[.slice a (N + 1) c] 51, rowH 55 2 a (N + 1) c (qcells q)] (fun v R => (∃ x, v = .iface 55 x) ∧ R = [pt Q #[.slice a N c] 51, rowH 55 2 a N c (qcells (q.take N))]) := by
  refine Tr.of fun U hs0 => ?_
  obtain ⟨g, pad, rfl, hs1, hl, hc, hm⟩ := hs0.ofRow (i := 1) rfl (by omega)
  refine (hs1.call (is := [0, 0]) rfl (qpop_pt Q g c N pad q w hN hbig hc)).mono fun e w' hx => ?_
  obtain ⟨v, R, rfl, ⟨rfl, rfl⟩, hs2⟩ := hx
  have hsp : qcells q ++ pad = qcells (q.take N) ++ (qcells (q.drop N) ++ pad) := by
    rw [← List.append_assoc, qcells_app, List.take_append_drop]
  rw [hsp] at hs2 hl
  have hlen : (qcells (q.take N)).length = N * 2 := by rw [qcells_len, List.length_take]; congr 1; omega
  exact ⟨_, _, rfl, ⟨⟨_, rfl⟩, rfl⟩, hs2.toRow (i := 1) rfl hlen hl (by omega) hm⟩
theorem pop_perm {q q2 : List QE} {N : Nat} (hN : q.length = N + 1) (h0 : 0 ≤ N) (hp : q2.Perm (swapL q 0 N)) (he : ∀ z, N ≤ z → q2.getD z qe0 = (swapL q 0 N).getD z qe0) : (q.getD 0 qe0 :: q2.take N).Perm q := by
  have hl : q2.length = N + 1 := by rw [hp.length_eq, swapL_len, hN]
  have h1 : q2.getD N qe0 = q.getD 0 qe0 := by
    rw [he N (Nat.le_refl _)]
    exact swapL_j (by omega)
  have h2 : q2 = q2.take N ++ [q2.getD N qe0] := by
    conv => lhs; rw [← List.take_append_drop N q2]
    congr 1
    rw [List.getD_eq_getElem?_getD, List.getElem?_eq_getElem (by omega)]
    rw [List.drop_eq_getElem_cons (by omega), List.drop_eq_nil_of_le (by omega)]
    rfl
  have h3 : (swapL q 0 N).Perm q := by
    rcases Nat.eq_zero_or_pos N with rfl | hn
    · have : swapL q 0 0 = q := by
        refine ext_getD (by simp [swapL_len]) fun k hk => ?_
        by_cases h : k = 0
        · subst h; exact swapL_i (by omega) (by omega)
        · exact swapL_ne h h
      rw [this]
    · exact swap_perm hn (by omega)
  rw [h1] at h2
  have h4 : (q.getD 0 qe0 :: q2.take N).Perm q2 := by
    conv => rhs; rw [h2]
    exact (List.perm_append_comm (l₁ := [q.getD 0 qe0]) (l₂ := q2.take N))
  exact h4.trans (hp.trans h3)
set_option maxRecDepth 100000 in
set_option maxHeartbeats 4000000 in
theorem hpop_tr (Q : Nat) (a : Option Addr) (c N : Nat) (q S : List QE) (w : World) (hN : q.length = N + 1) (hbig : N ≤ 100000) (hS : ∀ z, 0 < z → z < N + 1 → q.getD z qe0 ∈ S) (hh0 : HeapBut keyLt 0 (N + 1) 0 q) : TrM (QI S) Try.prog 20 #[.iface 53 (.pointer (some ⟨Q, 0, none⟩))] w [pt Q #[.slice a (N + 1) c] 51, rowH 55 2 a (N + 1) c (qcells q)]
    (fun v R => (∃ x, v = .iface 55 x) ∧ ∃ q', (q.getD 0 qe0 :: q').Perm q ∧ HeapFrom keyLt 0 N q' ∧ R = [pt Q #[.slice a N c] 51, rowH 55 2 a N c (qcells q')]) := by
  have hsp9 : (swapL q 0 N).Perm q := by
    rcases Nat.eq_zero_or_pos N with rfl | hn
    · have : swapL q 0 0 = q := by
        refine ext_getD (by simp [swapL_len]) fun k hk => ?_
        by_cases h : k = 0
        · subst h; exact swapL_i (by omega) (by omega)
        · exact swapL_ne h h
      rw [this]
    · exact swap_perm hn (by omega)
  have hsw9 : ∀ z, z < N → (swapL q 0 N).getD z qe0 ∈ S := fun z hz => by
    by_cases h1 : z = 0
    · subst h1
      rw [show (swapL q 0 N).getD 0 qe0 = q.getD N qe0 from swapL_i (by omega) (by omega)]
      exact hS N (by omega) (by omega)
    · rw [show (swapL q 0 N).getD z qe0 = q.getD z qe0 from swapL_ne h1 (by omega)]
      exact hS z (by omega) (by omega)
  refine TrM.of fun U hs0 hMU => ?_
  refine calls_sx (n := 15) (args := [.iface 53 (.pointer (some ⟨Q, 0, none⟩))]) Try.func20 rfl rfl rfl ?_
  refine CW.seq ?_
  refine CW.region ?_
  refine SL.v (.nilIface) ?_
  refine SL.nil ?_
  refine CW.seq ?_
  refine CW.region ?_
  refine SL.v (.iface 53 (.pointer (some ⟨Q, 0, none⟩))) ?_
  refine SL.call (f := 15) (args := #[.slice a (N + 1) c]) (w1 := w) rfl rfl (run_inv (av := #[]) rfl rfl (by kernel_rfl) (run_inv_val (fuel := 188) (E := 51) (v := .slice a (N + 1) c) (av := #[]) rfl rfl rfl rfl rfl rfl (hs0.pt_at (i := 0) rfl) (by kernel_rfl) (by kernel_rfl))) (len_n a c (N + 1) w) ?_
  rintro x w_1 ⟨rfl, rfl⟩
  refine ⟨.int .i64 (((N + 1) : Nat) : Int), rfl, ?_⟩
  refine SL.val (v := .int .i64 ((N : Nat) : Int)) (w' := w) rfl rfl (by have hw : IntKind.i64.wrap ((((N + 1) : Nat) : Int) - 1) = ((N : Nat) : Int) := (IntWalk.i64_in _ (by omega)).trans (by omega); exact run_eqv (by kernel_rfl) (congrArg (fun z => Value.int .i64 z) hw)) ?_
  refine SL.v (.int .i64 ((N : Nat) : Int)) ?_
  refine SL.nil ?_
  refine CW.seq ?_
  refine CW.region ?_
  refine SL.v (.iface 53 (.pointer (some ⟨Q, 0, none⟩))) ?_
  refine SL.v (.int .i64 ((N : Nat) : Int)) ?_
  refine SL.callH (f := 42) (args := #[.slice a (N + 1) c, .int .i64 0, .int .i64 ((N : Nat) : Int)]) (Pre := [rowH 55 2 a (N + 1) c (qcells q)]) (Rest := [pt Q #[.slice a (N + 1) c] 51]) [1] hs0 rfl rfl (run_inv (av := #[.int .i64 0, .int .i64 ((N : Nat) : Int)]) rfl rfl (by kernel_rfl) (run_inv_val (fuel := 188) (E := 51) (v := .slice a (N + 1) c) (av := #[.int .i64 0, .int .i64 ((N : Nat) : Int)]) rfl rfl rfl rfl rfl rfl (hs0.pt_at (i := 0) rfl) (by kernel_rfl) (by kernel_rfl))) rfl (swap_n a c (N + 1) q 0 N w hN (by omega) (by omega)) ?_
  rintro v_ Q_ w_4 ⟨rfl, rfl⟩ hs_6
  have hs_6 : SH U w w_4 [rowH 55 2 a (N + 1) c (qcells (swapL q 0 N)), pt Q #[.slice a (N + 1) c] 51] := hs_6
  refine SL.nil ?_
  refine CW.seq ?_
  refine CW.region ?_
  refine SL.v (.iface 53 (.pointer (some ⟨Q, 0, none⟩))) ?_
  refine SL.v (.int .i64 ((N : Nat) : Int)) ?_
  refine SL.callHM (hI := hMU) (f := 23) (args := #[.iface 53 (.pointer (some ⟨Q, 0, none⟩)), .int .i64 0, .int .i64 ((N : Nat) : Int)]) (Pre := [pt Q #[.slice a (N + 1) c] 51, rowH 55 2 a (N + 1) c (qcells (swapL q 0 N))]) (Rest := []) [1, 0] hs_6 rfl rfl (by kernel_rfl) rfl (down_tr Q a c (N + 1) (swapL q 0 N) S 0 N w_4 (by rw [swapL_len]; exact hN) (by omega) hsw9 (by omega) (by omega) (heap_swap0 hh0 hN)) ?_
  rintro v_ Q_ w_12 ⟨b_7, rfl, q_8, hp_9, hh_10, he_11, rfl⟩ hs_14
  have hs_14 : SH U w w_12 [pt Q #[.slice a (N + 1) c] 51, rowH 55 2 a (N + 1) c (qcells q_8)] := hs_14
  refine SL.nil ?_
  refine CW.seq ?_
  refine CW.region ?_
  refine SL.v (.iface 53 (.pointer (some ⟨Q, 0, none⟩))) ?_
  refine SL.callH (f := 43) (args := #[.pointer (some ⟨Q, 0, none⟩)]) (Pre := [pt Q #[.slice a (N + 1) c] 51, rowH 55 2 a (N + 1) c (qcells q_8)]) (Rest := []) [0, 0] hs_14 rfl rfl (run_inv (av := #[]) rfl rfl (by kernel_rfl) (by kernel_rfl)) rfl (qpop_n Q a c N q_8 w_12 ((hp_9.length_eq.trans (by rw [swapL_len]; exact hN))) (by omega)) ?_
  rintro v_ Q_ w_17 ⟨⟨x_15, rfl⟩, rfl⟩ hs_19
  have hs_19 : SH U w w_17 [pt Q #[.slice a N c] 51, rowH 55 2 a N c (qcells (q_8.take N))] := hs_19
  refine SL.v (.iface 55 x_15) ?_
  refine SL.nil ?_
  refine CW.ret ?_
  repeat with_reducible first | refine PThen.ret ?_ | refine PBlock.ret ?_
  refine PRet.tmp (t := 2) (v := .iface 55 x_15) rfl rfl (by kernel_rfl) ?_
  exact ⟨_, _, rfl, ⟨⟨_, rfl⟩, q_8.take N, pop_perm hN (by omega) hp_9 he_11, heap_take hh_10 (by rw [hp_9.length_eq, swapL_len]; omega), rfl⟩, hs_19.pick [0, 0] rfl⟩
end Go.Proofs.Ytaelmkkobjdgbaa

namespace Go.Proofs.Ytaelmkkobjdgbaa
set_option linter.unusedSimpArgs false
set_option linter.unusedVariables false
open Go.RowKit
set_option linter.unusedVariables false

theorem perm_in {S q q2 : List QE} {N : Nat} (hN : q.length = N) (hS : ∀ z, z < N → q.getD z qe0 ∈ S) (hp : q2.Perm q) : ∀ z, z < N → q2.getD z qe0 ∈ S := fun z hz => by
  have h1 : q2.getD z qe0 ∈ q := hp.mem_iff.1 (mem_at z (by rw [hp.length_eq]; omega))
  obtain ⟨k, hk, he⟩ := List.mem_iff_getElem.1 h1
  have := hS k (by omega)
  rw [List.getD_eq_getElem?_getD, List.getElem?_eq_getElem hk, Option.getD_some, he] at this
  exact this
set_option maxRecDepth 100000 in
set_option maxHeartbeats 4000000 in
theorem hfix_tr (Q : Nat) (a : Option Addr) (c N : Nat) (q S : List QE) (w : World) (hN : q.length = N) (h0 : 0 < N) (hbig : N ≤ 100000) (hS : ∀ z, z < N → q.getD z qe0 ∈ S) (hh0 : HeapBut keyLt 0 N 0 q) : TrM (QI S) Try.prog 21 #[.iface 53 (.pointer (some ⟨Q, 0, none⟩)), .int .i64 0] w [pt Q #[.slice a N c] 51, rowH 55 2 a N c (qcells q)]
    (fun v R => v = .tuple #[] ∧ ∃ q', q'.Perm q ∧ HeapFrom keyLt 0 N q' ∧ R = [pt Q #[.slice a N c] 51, rowH 55 2 a N c (qcells q')]) := by
  refine TrM.of fun U hs0 hMU => ?_
  refine calls_sx (n := 13) (args := [.iface 53 (.pointer (some ⟨Q, 0, none⟩)), .int .i64 0]) Try.func21 rfl rfl rfl ?_
  refine CW.seq ?_
  refine CW.region ?_
  refine SL.v (.iface 53 (.pointer (some ⟨Q, 0, none⟩))) ?_
  refine SL.v (.int .i64 0) ?_
  refine SL.v (.iface 53 (.pointer (some ⟨Q, 0, none⟩))) ?_
  refine SL.call (f := 15) (args := #[.slice a N c]) (w1 := w) rfl rfl (run_inv (av := #[]) rfl rfl (by kernel_rfl) (run_inv_val (fuel := 188) (E := 51) (v := .slice a N c) (av := #[]) rfl rfl rfl rfl rfl rfl (hs0.pt_at (i := 0) rfl) (by kernel_rfl) (by kernel_rfl))) (len_n a c N w) ?_
  rintro x w_1 ⟨rfl, rfl⟩
  refine ⟨.int .i64 ((N : Nat) : Int), rfl, ?_⟩
  refine SL.callHM (hI := hMU) (f := 23) (args := #[.iface 53 (.pointer (some ⟨Q, 0, none⟩)), .int .i64 0, .int .i64 ((N : Nat) : Int)]) (Pre := [pt Q #[.slice a N c] 51, rowH 55 2 a N c (qcells q)]) (Rest := []) [0, 0] hs0 rfl rfl (by kernel_rfl) rfl (down_tr Q a c N q S 0 N w hN (by omega) hS (by omega) (by omega) hh0) ?_
  rintro v_ Q_ w_9 ⟨b_4, rfl, q_5, hp_6, hh_7, he_8, rfl⟩ hs_11
  have hs_11 : SH U w w_9 [pt Q #[.slice a N c] 51, rowH 55 2 a N c (qcells q_5)] := hs_11
  refine SL.v (.bool (!b_4)) ?_
  refine SL.nil ?_
  rcases Bool.eq_false_or_eq_true (b_4) with hb_12 | hb_12
  · try rw [hb_12]
    refine CW.cond_false (by kernel_rfl) ?_
    refine CW.skip ?_
    refine PRet.none rfl ?_
    exact ⟨_, _, rfl, ⟨rfl, q_5, hp_6, hh_7, rfl⟩, hs_11.pick [0, 0] rfl⟩
  · try rw [hb_12]
    refine CW.cond_true (by kernel_rfl) ?_
    refine CW.region ?_
    refine SL.v (.iface 53 (.pointer (some ⟨Q, 0, none⟩))) ?_
    refine SL.v (.int .i64 0) ?_
    refine SL.callHM (hI := hMU) (f := 18) (args := #[.iface 53 (.pointer (some ⟨Q, 0, none⟩)), .int .i64 0]) (Pre := [pt Q #[.slice a N c] 51, rowH 55 2 a N c (qcells q_5)]) (Rest := []) [0, 0] hs_11 rfl rfl (by kernel_rfl) rfl (up_tr Q a c N q_5 S 0 w_9 (hp_6.length_eq.trans hN) (by omega) (perm_in hN hS hp_6) (by omega) (heap_up hh_7)) ?_
    rintro v_ Q_ w_16 ⟨rfl, q_13, hp_14, hh_15, rfl⟩ hs_18
    have hs_18 : SH U w w_16 [pt Q #[.slice a N c] 51, rowH 55 2 a N c (qcells q_13)] := hs_18
    have hp_19 := hp_14.trans hp_6
    refine SL.nil ?_
    refine PRet.none rfl ?_
    exact ⟨_, _, rfl, ⟨rfl, q_13, hp_19, hh_15, rfl⟩, hs_18.pick [0, 0] rfl⟩
set_option maxRecDepth 100000 in
set_option maxHeartbeats 4000000 in
theorem clone_some (x : Addr) (dc : Nat) (l : List Int) (w : World) (hd : DataAt w (some x) dc l) (hl : l.length ≤ 1000) : Calls Try.prog 19 #[.slice (some x) (l).length dc] w fun e w' => ∃ v Q, e = .returned v ∧ (fun v Q => ∃ a_ c_, v = .slice a_ (l).length c_ ∧ Q = [rowH 5 1 a_ (l).length c_ (bcells l)]) v Q ∧ SH [] w w' Q := by
  refine calls_sx (n := 8) (args := [.slice (some x) (l).length dc]) Try.func19 rfl rfl rfl ?_
  have hs0 := SH.none w
  refine CW.seq ?_
  refine CW.region ?_
  refine SL.v (.slice none 0 0) ?_
  refine SL.nil ?_
  refine CW.seq ?_
  refine CW.seq ?_
  refine CW.region ?_
  refine SL.v (.slice (some x) (l).length dc) ?_
  refine SL.v (.bool false) ?_
  refine SL.nil ?_
  refine CW.cond_false (by kernel_rfl) ?_
  refine CW.skip ?_
  refine CW.seq ?_
  refine CW.region ?_
  refine SL.newH (mk := fun g => .slice (some ⟨g, 0, none⟩) 0 0) (C := #[]) (T := 5) hs0 rfl rfl (by kernel_rfl) (fun g_1 w_2 hs_3 => ?_)
  have hs_3 : SH [] w w_2 [pt g_1 #[] 5] := hs_3
  refine SL.v (.slice (some x) (l).length dc) ?_
  have hs_4 : SH [] w w_2 [pt g_1 ⟨bcells ([]) ++ []⟩ 5] := hs_3
  refine SL.appH (z := .int .u8 0) (size := 1) (bytes := 1) (el := 5) (m := (l).length) (news := bcells l) (i := 0) (g := g_1) (k := 0) (cap := 0) (xs := bcells ([])) (pad := []) (xs' := bcells (l)) (k' := (l).length) (L' := []) hs_4 rfl rfl rfl (by kernel_rfl) (by kernel_rfl) (by kernel_rfl) (by kernel_rfl) (by kernel_rfl) (by kernel_rfl) rfl (bcells_len _) rfl (by decide) (by decide) rfl (srcD (el := 5) (by kernel_rfl) (hd.gr hs_4.gr)) (by omega) (show [] ++ bcells l = bcells l from rfl) (by simp) rfl (fun g_5 cap_6 pad_7 w_8 hs_9 hl_10 hc_11 hm_12 => ?_)
  have hs_9 : SH [] w w_8 [pt g_5 ⟨bcells l ++ pad_7⟩ 5] := hs_9
  refine SL.v (.slice (some ⟨g_5, 0, none⟩) ((l).length) cap_6) ?_
  refine SL.nil ?_
  refine CW.ret ?_
  repeat with_reducible first | refine PThen.ret ?_ | refine PBlock.ret ?_
  refine PRet.tmp (t := 2) (v := .slice (some ⟨g_5, 0, none⟩) ((l).length) cap_6) rfl rfl (by kernel_rfl) ?_
  have hs_13 : SH [] w w_8 [rowH 5 1 (some ⟨g_5, 0, none⟩) (l).length cap_6 (bcells l)] := hs_9.toRow (i := 0) rfl (bcells_len _) hl_10 hc_11 hm_12
  exact ⟨_, _, rfl, ⟨_, _, rfl, rfl⟩, hs_13.pick [0] rfl⟩
set_option maxRecDepth 100000 in
theorem clone_none (w : World) : Calls Try.prog 19 #[.slice none 0 0] w fun e w' => e = .returned (.slice none 0 0) ∧ Gr w w' := by
  refine calls_sx (n := 8) (args := [.slice none 0 0]) Try.func19 rfl rfl rfl ?_
  have hs0 := SH.none w
  refine CW.seq ?_
  refine CW.region ?_
  refine SL.v (.slice none 0 0) ?_
  refine SL.nil ?_
  refine CW.seq ?_
  refine CW.seq ?_
  refine CW.region ?_
  refine SL.v (.slice none 0 0) ?_
  refine SL.v (.bool true) ?_
  refine SL.nil ?_
  refine CW.cond_true (by kernel_rfl) ?_
  refine CW.seq ?_
  refine CW.region ?_
  refine SL.v (.slice none 0 0) ?_
  refine SL.nil ?_
  refine CW.ret ?_
  repeat with_reducible first | refine PThen.ret ?_ | refine PBlock.ret ?_
  refine PRet.tmp (t := 2) (v := .slice none 0 0) rfl rfl (by kernel_rfl) ?_
  exact ⟨rfl, hs0.gr⟩
theorem Tr.of0 {P : Program} {f : FuncId} {args : Array Value} {w : World} {R : Value → List HA → Prop} (h : Calls P f args w fun e w' => ∃ v Q, e = .returned v ∧ R v Q ∧ SH [] w w' Q) : Tr P f args w [] R := fun fp hfp => by
  have h0 : fp = [] := hfp
  subst h0
  refine h.mono fun e w' hx => ?_
  obtain ⟨v, Q, rfl, hR, hs⟩ := hx
  obtain ⟨fp', h1, h2⟩ := hs.st
  exact ⟨v, Q, fp', rfl, hR, h1, hs.upd, fun g hg => .inr ((h2 g hg).resolve_right (by simp))⟩
theorem clone_any (da : Option Addr) (dc : Nat) (l : List Int) (w : World) (hd : DataAt w da dc l) (hl : l.length ≤ 1000) : Tr Try.prog 19 #[.slice da (l).length dc] w [] (fun v Q => ∃ a_ c_, v = .slice a_ (l).length c_ ∧ Q = [rowH 5 1 a_ (l).length c_ (bcells l)]) := by
  have hd0 := hd
  rcases hd with ⟨rfl, rfl, rfl⟩ | ⟨x, rfl, rfl⟩ | ⟨b, off, C, T, fr, rfl, hb, hcut⟩
  · refine Tr.of0 ((clone_none w).mono fun e w' h => ?_)
    obtain ⟨rfl, hg⟩ := h
    exact ⟨_, _, rfl, ⟨none, 0, rfl, rfl⟩, ((SH.none w).grow hg).row0 5 1⟩
  · exact Tr.of0 (clone_some x dc [] w hd0 hl)
  · exact Tr.of0 (clone_some _ dc l w hd0 hl)
set_option maxRecDepth 100000 in
set_option maxHeartbeats 8000000 in
theorem next_pt (Q g c N : Nat) (pad : List Value) (q S : List QE) (E9 : QE) (w : World) (hE9 : q.getD 0 qe0 = E9) (hN : q.length = N + 1) (hbig : N ≤ 10000) (hl : (qcells q ++ pad).length = c * 2) (hc : N + 1 ≤ c) (hm : c ≤ maxLen) (hS : ∀ z, z < N + 1 → q.getD z qe0 ∈ S) (h0S : E9 ∈ S) (hh0 : HeapFrom keyLt 0 (N + 1) q) :
    TrM (QI S) Try.prog 16 #[.pointer (some ⟨Q, 0, none⟩)] w [pt Q #[.slice (some ⟨g, 0, none⟩) (N + 1) c] 51, pt g ⟨qcells q ++ pad⟩ 55]
    (fun v R => ∃ a_ c_ N' q', v = .agg #[.int .i64 (E9.xs.getD 0 itm0).at_, .int .i64 (E9.xs.getD 0 itm0).kd, .slice a_ (E9.xs.getD 0 itm0).bs.length c_, .int .i64 (E9.xs.getD 0 itm0).k0, .int .u8 (E9.xs.getD 0 itm0).k1, .bool (E9.xs.getD 0 itm0).k2, .bool (E9.xs.getD 0 itm0).k3, .int .i64 (E9.xs.getD 0 itm0).rw_, .int .i64 (E9.xs.getD 0 itm0).cl, .int .i64 ((E9.n : Nat) : Int)] ∧ q'.length = N' ∧ (((tailE E9).xs.length = 0 ∧ (tailE E9 :: q').Perm (q.set 0 (tailE E9))) ∨ (0 < (tailE E9).xs.length ∧ q'.Perm (q.set 0 (tailE E9)))) ∧ HeapFrom keyLt 0 N' q' ∧
      R = [pt Q #[.slice (some ⟨g, 0, none⟩) N' c] 51, rowH 55 2 (some ⟨g, 0, none⟩) N' c (qcells q'), rowH 5 1 a_ (E9.xs.getD 0 itm0).bs.length c_ (bcells (E9.xs.getD 0 itm0).bs)]) := by
  refine TrM.of fun U hs0 hMU => ?_
  have hp0_ : 0 < E9.xs.length := ((hMU _ (Upd.refl _ _)) _ h0S).1
  have hcp_ : E9.xs.length ≤ E9.c := ((hMU _ (Upd.refl _ _)) _ h0S).2.1
  have hset_ : (q.set 0 (tailE E9)).getD 0 qe0 = tailE E9 := getD_set_self (by omega)
  refine calls_sx (n := 47) (args := [.pointer (some ⟨Q, 0, none⟩)]) Try.func16 rfl rfl rfl ?_
  refine CW.seq ?_
  refine CW.region ?_
  refine SL.newH (mk := fun g => .pointer (some ⟨g, 0, none⟩)) (C := #[.int .i64 0, .int .i64 0, .slice none 0 0, .int .i64 0, .int .u8 0, .bool false, .bool false, .int .i64 0, .int .i64 0, .int .i64 0]) (T := 39) hs0 rfl rfl (by kernel_rfl) (fun g_1 w_2 hs_3 => ?_)
  have hs_3 : SH U w w_2 [pt Q #[.slice (some ⟨g, 0, none⟩) (N + 1) c] 51, pt g ⟨qcells q ++ pad⟩ 55, pt g_1 #[.int .i64 0, .int .i64 0, .slice none 0 0, .int .i64 0, .int .u8 0, .bool false, .bool false, .int .i64 0, .int .i64 0, .int .i64 0] 39] := hs_3
  refine SL.nil ?_
  refine CW.seq ?_
  refine CW.region ?_
  refine SL.v (.pointer (some ⟨Q, 0, none⟩)) ?_
  refine SL.v (.pointer (some ⟨Q, 0, none⟩)) ?_
  refine SL.load (g := Q) (off := 0) (v := .slice (some ⟨g, 0, none⟩) (N + 1) c) rfl rfl rfl (by kernel_rfl) (hs_3.pt_at (i := 0) rfl) (by kernel_rfl) ?_
  refine SL.val (v := .pointer (some ⟨g, 0 * 2, none⟩)) (w' := w_2) rfl rfl ((run_ix (len := (N + 1)) (cap := c) (q := .i64) (I := 0) (g := g) (off := 0) (i := 0) (size := 2) rfl (by kernel_rfl) (by kernel_rfl) rfl (by kernel_rfl) (by kernel_rfl) (by (try simp only [List.length_set]); omega)).trans (by rw [Nat.zero_add])) ?_
  refine SL.v (.pointer (some ⟨g, 0 * 2, none⟩)) ?_
  refine SL.nil ?_
  refine CW.seq ?_
  have HGR : GrL [fun v _ => v = .pointer (some ⟨g, 0 * 2, none⟩), fun v _ => v = .pointer (some ⟨g, 0 * 2, none⟩), fun v _ => v = .pointer (some ⟨g, 0 * 2, none⟩), fun v _ => v = .slice (some ⟨E9.b, E9.off, none⟩) E9.xs.length E9.c, fun v _ => v = .pointer (some ⟨E9.b, E9.off, none⟩), fun v _ => v = .agg #[.int .i64 ((E9.xs.getD 0 itm0).at_), .int .i64 ((E9.xs.getD 0 itm0).kd), .slice ((E9.xs.getD 0 itm0).da) ((E9.xs.getD 0 itm0).bs.length) ((E9.xs.getD 0 itm0).dc), .int .i64 ((E9.xs.getD 0 itm0).k0), .int .u8 ((E9.xs.getD 0 itm0).k1), .bool ((E9.xs.getD 0 itm0).k2), .bool ((E9.xs.getD 0 itm0).k3), .int .i64 ((E9.xs.getD 0 itm0).rw_), .int .i64 ((E9.xs.getD 0 itm0).cl)], fun v _ => v = .pointer (some ⟨g, 0 * 2, none⟩), fun v _ => v = .pointer (some ⟨g, 0 * 2, none⟩), fun v _ => v = .pointer (some ⟨g, 0 * 2 + 1, none⟩), fun v _ => v = .int .i64 ((E9.n : Nat) : Int), fun v _ => v = .agg #[.int .i64 ((E9.xs.getD 0 itm0).at_), .int .i64 ((E9.xs.getD 0 itm0).kd), .slice ((E9.xs.getD 0 itm0).da) ((E9.xs.getD 0 itm0).bs.length) ((E9.xs.getD 0 itm0).dc), .int .i64 ((E9.xs.getD 0 itm0).k0), .int .u8 ((E9.xs.getD 0 itm0).k1), .bool ((E9.xs.getD 0 itm0).k2), .bool ((E9.xs.getD 0 itm0).k3), .int .i64 ((E9.xs.getD 0 itm0).rw_), .int .i64 ((E9.xs.getD 0 itm0).cl), .int .i64 ((E9.n : Nat) : Int)], NewB w_2 (fun g => .pointer (some ⟨g, 0, none⟩)) (.cells #[.int .i64 0, .int .i64 0, .slice none 0 0, .int .i64 0, .int .u8 0, .bool false, .bool false, .int .i64 0, .int .i64 0, .int .i64 0] 39 (0, 0))] := ⟨fun _ _ _ _ h => h, ⟨fun _ _ _ _ h => h, ⟨fun _ _ _ _ h => h, ⟨fun _ _ _ _ h => h, ⟨fun _ _ _ _ h => h, ⟨fun _ _ _ _ h => h, ⟨fun _ _ _ _ h => h, ⟨fun _ _ _ _ h => h, ⟨fun _ _ _ _ h => h, ⟨fun _ _ _ _ h => h, ⟨fun _ _ _ _ h => h, ⟨fun _ _ _ hg h => NewB.gr hg h, trivial⟩⟩⟩⟩⟩⟩⟩⟩⟩⟩⟩⟩
  refine CW.draw 12 (FW [fun v _ => v = .pointer (some ⟨g, 0 * 2, none⟩), fun v _ => v = .pointer (some ⟨g, 0 * 2, none⟩), fun v _ => v = .pointer (some ⟨g, 0 * 2, none⟩), fun v _ => v = .slice (some ⟨E9.b, E9.off, none⟩) E9.xs.length E9.c, fun v _ => v = .pointer (some ⟨E9.b, E9.off, none⟩), fun v _ => v = .agg #[.int .i64 ((E9.xs.getD 0 itm0).at_), .int .i64 ((E9.xs.getD 0 itm0).kd), .slice ((E9.xs.getD 0 itm0).da) ((E9.xs.getD 0 itm0).bs.length) ((E9.xs.getD 0 itm0).dc), .int .i64 ((E9.xs.getD 0 itm0).k0), .int .u8 ((E9.xs.getD 0 itm0).k1), .bool ((E9.xs.getD 0 itm0).k2), .bool ((E9.xs.getD 0 itm0).k3), .int .i64 ((E9.xs.getD 0 itm0).rw_), .int .i64 ((E9.xs.getD 0 itm0).cl)], fun v _ => v = .pointer (some ⟨g, 0 * 2, none⟩), fun v _ => v = .pointer (some ⟨g, 0 * 2, none⟩), fun v _ => v = .pointer (some ⟨g, 0 * 2 + 1, none⟩), fun v _ => v = .int .i64 ((E9.n : Nat) : Int), fun v _ => v = .agg #[.int .i64 ((E9.xs.getD 0 itm0).at_), .int .i64 ((E9.xs.getD 0 itm0).kd), .slice ((E9.xs.getD 0 itm0).da) ((E9.xs.getD 0 itm0).bs.length) ((E9.xs.getD 0 itm0).dc), .int .i64 ((E9.xs.getD 0 itm0).k0), .int .u8 ((E9.xs.getD 0 itm0).k1), .bool ((E9.xs.getD 0 itm0).k2), .bool ((E9.xs.getD 0 itm0).k3), .int .i64 ((E9.xs.getD 0 itm0).rw_), .int .i64 ((E9.xs.getD 0 itm0).cl), .int .i64 ((E9.n : Nat) : Int)], NewB w_2 (fun g => .pointer (some ⟨g, 0, none⟩)) (.cells #[.int .i64 0, .int .i64 0, .slice none 0 0, .int .i64 0, .int .u8 0, .bool false, .bool false, .int .i64 0, .int .i64 0, .int .i64 0] 39 (0, 0))]) (fun W => Gr w_2 W) (by kernel_rfl) (by kernel_rfl) (by kernel_rfl) (by kernel_rfl) (by kernel_rfl) (Gr.refl _).drew ?_ ?_
  · refine ⟨?_, ⟨?_, ⟨?_, ⟨?_, ⟨?_, ⟨?_, ⟨?_, ⟨?_, ⟨?_, ⟨?_, ⟨?_, ⟨?_, trivial⟩⟩⟩⟩⟩⟩⟩⟩⟩⟩⟩⟩
    · intro L ys W hB hF hP K hK
      show OpE _ _ _ W K
      exact OpE.val (.pointer (some ⟨g, 0 * 2, none⟩)) W (by kernel_rfl) (hK _ W hB rfl (fun _ _ h => h))
    · intro L ys W hB hF hP K hK
      show OpE _ _ _ W K
      exact OpE.known (j := 0) (v := .pointer (some ⟨g, 0 * 2, none⟩)) (hF 0 (hP.1 rfl)) (OpE.val (.pointer (some ⟨g, 0 * 2, none⟩)) W (by kernel_rfl) (hK _ W hB rfl (fun _ _ h => h)))
    · intro L ys W hB hF hP K hK
      show OpE _ _ _ W K
      exact OpE.known (j := 1) (v := .pointer (some ⟨g, 0 * 2, none⟩)) (hF 1 (hP.1 rfl)) (OpE.val (.pointer (some ⟨g, 0 * 2, none⟩)) W (by kernel_rfl) (hK _ W hB rfl (fun _ _ h => h)))
    · intro L ys W hB hF hP K hK
      show OpE _ _ _ W K
      exact OpE.known (j := 2) (v := .pointer (some ⟨g, 0 * 2, none⟩)) (hF 2 (hP.1 rfl)) (OpE.load (g := g) (off := 0 * 2) (v := .slice (some ⟨E9.b, E9.off, none⟩) E9.xs.length E9.c) rfl (by kernel_rfl) ((hs_3.grow hB).pt_at (i := 1) rfl) (ldV_one (by kernel_rfl) (by kernel_rfl) (srow_get (qcells_get (l := q) (i := 0) (j := 0) (by (try simp only [List.length_set]); omega) (by first | rfl | (rw [hE9]; rfl))))) (hK _ W hB rfl (fun _ _ h => h)))
    · intro L ys W hB hF hP K hK
      show OpE _ _ _ W K
      exact OpE.known (j := 3) (v := .slice (some ⟨E9.b, E9.off, none⟩) E9.xs.length E9.c) (hF 3 (hP.1 rfl)) (OpE.val (.pointer (some ⟨E9.b, E9.off, none⟩)) W ((run_ix (len := E9.xs.length) (cap := E9.c) (q := .i64) (I := 0) (g := E9.b) (off := E9.off) (i := 0) (size := 9) rfl (by kernel_rfl) (by kernel_rfl) rfl (by kernel_rfl) (by kernel_rfl) (by (try simp only [List.length_set]); omega)).trans (by rw [show E9.off + 0 * 9 = E9.off from by omega])) (hK _ W hB rfl (fun _ _ h => h)))
    · intro L ys W hB hF hP K hK
      show OpE _ _ _ W K
      exact OpE.known (j := 4) (v := .pointer (some ⟨E9.b, E9.off, none⟩)) (hF 4 (hP.1 rfl)) (OpE.load (g := E9.b) (off := E9.off) (v := .agg #[.int .i64 ((E9.xs.getD 0 itm0).at_), .int .i64 ((E9.xs.getD 0 itm0).kd), .slice ((E9.xs.getD 0 itm0).da) ((E9.xs.getD 0 itm0).bs.length) ((E9.xs.getD 0 itm0).dc), .int .i64 ((E9.xs.getD 0 itm0).k0), .int .u8 ((E9.xs.getD 0 itm0).k1), .bool ((E9.xs.getD 0 itm0).k2), .bool ((E9.xs.getD 0 itm0).k3), .int .i64 ((E9.xs.getD 0 itm0).rw_), .int .i64 ((E9.xs.getD 0 itm0).cl)]) rfl (by kernel_rfl) ((hMU _ (hs_3.grow hB).upd) _ h0S).2.blk (ldV_row (k := 9) (by kernel_rfl) (by kernel_rfl) (((hMU _ (hs_3.grow hB).upd) _ h0S).2.many ((hMU _ (hs_3.grow hB).upd) _ h0S).1 (j := 0) rfl (by decide)) rfl rfl) (hK _ W hB rfl (fun _ _ h => h)))
    · intro L ys W hB hF hP K hK
      show OpE _ _ _ W K
      exact OpE.val (.pointer (some ⟨g, 0 * 2, none⟩)) W (by kernel_rfl) (hK _ W hB rfl (fun _ _ h => h))
    · intro L ys W hB hF hP K hK
      show OpE _ _ _ W K
      exact OpE.known (j := 6) (v := .pointer (some ⟨g, 0 * 2, none⟩)) (hF 6 (hP.1 rfl)) (OpE.val (.pointer (some ⟨g, 0 * 2, none⟩)) W (by kernel_rfl) (hK _ W hB rfl (fun _ _ h => h)))
    · intro L ys W hB hF hP K hK
      show OpE _ _ _ W K
      exact OpE.known (j := 7) (v := .pointer (some ⟨g, 0 * 2, none⟩)) (hF 7 (hP.1 rfl)) (OpE.val (.pointer (some ⟨g, 0 * 2 + 1, none⟩)) W (by kernel_rfl) (hK _ W hB rfl (fun _ _ h => h)))
    · intro L ys W hB hF hP K hK
      show OpE _ _ _ W K
      exact OpE.known (j := 8) (v := .pointer (some ⟨g, 0 * 2 + 1, none⟩)) (hF 8 (hP.1 rfl)) (OpE.load (g := g) (off := 0 * 2 + 1) (v := .int .i64 ((E9.n : Nat) : Int)) rfl (by kernel_rfl) ((hs_3.grow hB).pt_at (i := 1) rfl) (ldV_one (by kernel_rfl) (by kernel_rfl) (srow_get (qcells_get (l := q) (i := 0) (j := 1) (by (try simp only [List.length_set]); omega) (by first | rfl | (rw [hE9]; rfl))))) (hK _ W hB rfl (fun _ _ h => h)))
    · intro L ys W hB hF hP K hK
      show OpE _ _ _ W K
      exact OpE.known (j := 5) (v := .agg #[.int .i64 ((E9.xs.getD 0 itm0).at_), .int .i64 ((E9.xs.getD 0 itm0).kd), .slice ((E9.xs.getD 0 itm0).da) ((E9.xs.getD 0 itm0).bs.length) ((E9.xs.getD 0 itm0).dc), .int .i64 ((E9.xs.getD 0 itm0).k0), .int .u8 ((E9.xs.getD 0 itm0).k1), .bool ((E9.xs.getD 0 itm0).k2), .bool ((E9.xs.getD 0 itm0).k3), .int .i64 ((E9.xs.getD 0 itm0).rw_), .int .i64 ((E9.xs.getD 0 itm0).cl)]) (hF 5 (hP.1 rfl)) (OpE.known (j := 9) (v := .int .i64 ((E9.n : Nat) : Int)) (hF 9 (hP.2.1 rfl)) (OpE.val (.agg #[.int .i64 ((E9.xs.getD 0 itm0).at_), .int .i64 ((E9.xs.getD 0 itm0).kd), .slice ((E9.xs.getD 0 itm0).da) ((E9.xs.getD 0 itm0).bs.length) ((E9.xs.getD 0 itm0).dc), .int .i64 ((E9.xs.getD 0 itm0).k0), .int .u8 ((E9.xs.getD 0 itm0).k1), .bool ((E9.xs.getD 0 itm0).k2), .bool ((E9.xs.getD 0 itm0).k3), .int .i64 ((E9.xs.getD 0 itm0).rw_), .int .i64 ((E9.xs.getD 0 itm0).cl), .int .i64 ((E9.n : Nat) : Int)]) W (by kernel_rfl) (hK _ W hB rfl (fun _ _ h => h))))
    · intro L ys W hB hF hP K hK
      show OpE _ _ _ W K
      exact OpE.new (mk := fun g => .pointer (some ⟨g, 0, none⟩)) (C := #[.int .i64 0, .int .i64 0, .slice none 0 0, .int .i64 0, .int .u8 0, .bool false, .bool false, .int .i64 0, .int .i64 0, .int .i64 0]) (T := 39) (by kernel_rfl) (hK _ _ (hB.alloc _) ⟨W.heap.size, rfl, heap_alloc_new _ _, hB.size⟩ (fun _ _ h => FW.gr HGR ((Gr.refl W).alloc _) h))
  · intro ys_7 w_4 hs_5 hF_6
    have hg_8 := hs_5
    have hs_5 : SH U w w_4 [pt Q #[.slice (some ⟨g, 0, none⟩) (N + 1) c] 51, pt g ⟨qcells q ++ pad⟩ 55, pt g_1 #[.int .i64 0, .int .i64 0, .slice none 0 0, .int .i64 0, .int .u8 0, .bool false, .bool false, .int .i64 0, .int .i64 0, .int .i64 0] 39] := hs_3.grow hg_8
    obtain ⟨g_9, hvq11, hbq11, hgq11⟩ := hF_6 11 (by decide)
    have hs_10 := hs_3.fresh hg_8 hbq11 hgq11
    have hs_10 : SH U w w_4 [pt Q #[.slice (some ⟨g, 0, none⟩) (N + 1) c] 51, pt g ⟨qcells q ++ pad⟩ 55, pt g_1 #[.int .i64 0, .int .i64 0, .slice none 0 0, .int .i64 0, .int .u8 0, .bool false, .bool false, .int .i64 0, .int .i64 0, .int .i64 0] 39, pt g_9 #[.int .i64 0, .int .i64 0, .slice none 0 0, .int .i64 0, .int .u8 0, .bool false, .bool false, .int .i64 0, .int .i64 0, .int .i64 0] 39] := hs_10
    refine SL.knownY (j := 10) (v := .agg #[.int .i64 ((E9.xs.getD 0 itm0).at_), .int .i64 ((E9.xs.getD 0 itm0).kd), .slice ((E9.xs.getD 0 itm0).da) ((E9.xs.getD 0 itm0).bs.length) ((E9.xs.getD 0 itm0).dc), .int .i64 ((E9.xs.getD 0 itm0).k0), .int .u8 ((E9.xs.getD 0 itm0).k1), .bool ((E9.xs.getD 0 itm0).k2), .bool ((E9.xs.getD 0 itm0).k3), .int .i64 ((E9.xs.getD 0 itm0).rw_), .int .i64 ((E9.xs.getD 0 itm0).cl), .int .i64 ((E9.n : Nat) : Int)]) (show ys_7 10 = .agg #[.int .i64 ((E9.xs.getD 0 itm0).at_), .int .i64 ((E9.xs.getD 0 itm0).kd), .slice ((E9.xs.getD 0 itm0).da) ((E9.xs.getD 0 itm0).bs.length) ((E9.xs.getD 0 itm0).dc), .int .i64 ((E9.xs.getD 0 itm0).k0), .int .u8 ((E9.xs.getD 0 itm0).k1), .bool ((E9.xs.getD 0 itm0).k2), .bool ((E9.xs.getD 0 itm0).k3), .int .i64 ((E9.xs.getD 0 itm0).rw_), .int .i64 ((E9.xs.getD 0 itm0).cl), .int .i64 ((E9.n : Nat) : Int)] from hF_6 10 (by decide)) (SL.knownY (j := 11) (v := .pointer (some ⟨g_9, 0, none⟩)) hvq11 (?_))
    clear hF_6 HGR
    refine SL.storeH (i := 3) (g := g_9) (off := 0) (v := .agg #[.int .i64 ((E9.xs.getD 0 itm0).at_), .int .i64 ((E9.xs.getD 0 itm0).kd), .slice ((E9.xs.getD 0 itm0).da) ((E9.xs.getD 0 itm0).bs.length) ((E9.xs.getD 0 itm0).dc), .int .i64 ((E9.xs.getD 0 itm0).k0), .int .u8 ((E9.xs.getD 0 itm0).k1), .bool ((E9.xs.getD 0 itm0).k2), .bool ((E9.xs.getD 0 itm0).k3), .int .i64 ((E9.xs.getD 0 itm0).rw_), .int .i64 ((E9.xs.getD 0 itm0).cl), .int .i64 ((E9.n : Nat) : Int)]) (L' := [pt Q #[.slice (some ⟨g, 0, none⟩) (N + 1) c] 51, pt g ⟨qcells q ++ pad⟩ 55, pt g_1 #[.int .i64 0, .int .i64 0, .slice none 0 0, .int .i64 0, .int .u8 0, .bool false, .bool false, .int .i64 0, .int .i64 0, .int .i64 0] 39, pt g_9 #[.int .i64 ((E9.xs.getD 0 itm0).at_), .int .i64 ((E9.xs.getD 0 itm0).kd), .slice ((E9.xs.getD 0 itm0).da) ((E9.xs.getD 0 itm0).bs.length) ((E9.xs.getD 0 itm0).dc), .int .i64 ((E9.xs.getD 0 itm0).k0), .int .u8 ((E9.xs.getD 0 itm0).k1), .bool ((E9.xs.getD 0 itm0).k2), .bool ((E9.xs.getD 0 itm0).k3), .int .i64 ((E9.xs.getD 0 itm0).rw_), .int .i64 ((E9.xs.getD 0 itm0).cl), .int .i64 ((E9.n : Nat) : Int)] 39]) hs_10 rfl rfl rfl (by kernel_rfl) (by kernel_rfl) rfl (by kernel_rfl) (by kernel_rfl) rfl (by kernel_rfl) rfl (fun w_11 hs_12 => ?_)
    refine SL.nil ?_
    refine CW.seq ?_
    refine CW.region ?_
    refine SL.v (.pointer (some ⟨g_9, 0, none⟩)) ?_
    refine SL.v (.pointer (some ⟨g_9, 2, none⟩)) ?_
    refine SL.load (g := g_9) (off := 2) (v := .slice ((E9.xs.getD 0 itm0).da) ((E9.xs.getD 0 itm0).bs.length) ((E9.xs.getD 0 itm0).dc)) rfl rfl rfl (by kernel_rfl) (hs_12.pt_at (i := 3) rfl) (by kernel_rfl) ?_
    refine SL.callH (f := 19) (args := #[.slice ((E9.xs.getD 0 itm0).da) ((E9.xs.getD 0 itm0).bs.length) ((E9.xs.getD 0 itm0).dc)]) (Pre := []) (Rest := [pt Q #[.slice (some ⟨g, 0, none⟩) (N + 1) c] 51, pt g ⟨qcells q ++ pad⟩ 55, pt g_1 #[.int .i64 0, .int .i64 0, .slice none 0 0, .int .i64 0, .int .u8 0, .bool false, .bool false, .int .i64 0, .int .i64 0, .int .i64 0] 39, pt g_9 #[.int .i64 ((E9.xs.getD 0 itm0).at_), .int .i64 ((E9.xs.getD 0 itm0).kd), .slice ((E9.xs.getD 0 itm0).da) ((E9.xs.getD 0 itm0).bs.length) ((E9.xs.getD 0 itm0).dc), .int .i64 ((E9.xs.getD 0 itm0).k0), .int .u8 ((E9.xs.getD 0 itm0).k1), .bool ((E9.xs.getD 0 itm0).k2), .bool ((E9.xs.getD 0 itm0).k3), .int .i64 ((E9.xs.getD 0 itm0).rw_), .int .i64 ((E9.xs.getD 0 itm0).cl), .int .i64 ((E9.n : Nat) : Int)] 39]) [] hs_12 rfl rfl (by kernel_rfl) rfl (clone_any (E9.xs.getD 0 itm0).da (E9.xs.getD 0 itm0).dc (E9.xs.getD 0 itm0).bs w_11 (((hMU _ hs_12.upd) _ h0S).2.2.1 0 hp0_).1 (((hMU _ hs_12.upd) _ h0S).2.2.1 0 hp0_).2) ?_
    rintro v_ Q_ w_15 ⟨a_13, c_14, rfl, rfl⟩ hs_17
    have hs_17 : SH U w w_15 [rowH 5 1 a_13 (E9.xs.getD 0 itm0).bs.length c_14 (bcells (E9.xs.getD 0 itm0).bs), pt Q #[.slice (some ⟨g, 0, none⟩) (N + 1) c] 51, pt g ⟨qcells q ++ pad⟩ 55, pt g_1 #[.int .i64 0, .int .i64 0, .slice none 0 0, .int .i64 0, .int .u8 0, .bool false, .bool false, .int .i64 0, .int .i64 0, .int .i64 0] 39, pt g_9 #[.int .i64 ((E9.xs.getD 0 itm0).at_), .int .i64 ((E9.xs.getD 0 itm0).kd), .slice ((E9.xs.getD 0 itm0).da) ((E9.xs.getD 0 itm0).bs.length) ((E9.xs.getD 0 itm0).dc), .int .i64 ((E9.xs.getD 0 itm0).k0), .int .u8 ((E9.xs.getD 0 itm0).k1), .bool ((E9.xs.getD 0 itm0).k2), .bool ((E9.xs.getD 0 itm0).k3), .int .i64 ((E9.xs.getD 0 itm0).rw_), .int .i64 ((E9.xs.getD 0 itm0).cl), .int .i64 ((E9.n : Nat) : Int)] 39] := hs_17
    refine SL.v (.pointer (some ⟨g_9, 0, none⟩)) ?_
    refine SL.v (.pointer (some ⟨g_9, 2, none⟩)) ?_
    refine SL.storeH (i := 4) (g := g_9) (off := 2) (v := .slice a_13 ((E9.xs.getD 0 itm0).bs.length) c_14) (L' := [rowH 5 1 a_13 (E9.xs.getD 0 itm0).bs.length c_14 (bcells (E9.xs.getD 0 itm0).bs), pt Q #[.slice (some ⟨g, 0, none⟩) (N + 1) c] 51, pt g ⟨qcells q ++ pad⟩ 55, pt g_1 #[.int .i64 0, .int .i64 0, .slice none 0 0, .int .i64 0, .int .u8 0, .bool false, .bool false, .int .i64 0, .int .i64 0, .int .i64 0] 39, pt g_9 #[.int .i64 ((E9.xs.getD 0 itm0).at_), .int .i64 ((E9.xs.getD 0 itm0).kd), .slice a_13 ((E9.xs.getD 0 itm0).bs.length) c_14, .int .i64 ((E9.xs.getD 0 itm0).k0), .int .u8 ((E9.xs.getD 0 itm0).k1), .bool ((E9.xs.getD 0 itm0).k2), .bool ((E9.xs.getD 0 itm0).k3), .int .i64 ((E9.xs.getD 0 itm0).rw_), .int .i64 ((E9.xs.getD 0 itm0).cl), .int .i64 ((E9.n : Nat) : Int)] 39]) hs_17 rfl rfl rfl (by kernel_rfl) (by kernel_rfl) rfl (by kernel_rfl) (by kernel_rfl) rfl (by kernel_rfl) rfl (fun w_18 hs_19 => ?_)
    refine SL.nil ?_
    refine CW.seq ?_
    refine CW.seq ?_
    refine CW.region ?_
    refine SL.v (.pointer (some ⟨g, 0 * 2, none⟩)) ?_
    refine SL.v (.pointer (some ⟨g, 0 * 2, none⟩)) ?_
    refine SL.v (.pointer (some ⟨g, 0 * 2, none⟩)) ?_
    refine SL.v (.pointer (some ⟨g, 0 * 2, none⟩)) ?_
    refine SL.load (g := g) (off := 0 * 2) (v := .slice (some ⟨E9.b, E9.off, none⟩) E9.xs.length E9.c) rfl rfl rfl (by kernel_rfl) (hs_19.pt_at (i := 2) rfl) (ldV_one (by kernel_rfl) (by kernel_rfl) (srow_get (qcells_get (l := q) (i := 0) (j := 0) (by (try simp only [List.length_set]); omega) (by first | rfl | (rw [hE9]; rfl))))) ?_
    refine SL.val (v := .slice (some ⟨(tailE E9).b, (tailE E9).off, none⟩) ((tailE E9).xs.length) ((tailE E9).c)) (w' := w_18) rfl rfl (run_from1 (e := E9) rfl (by kernel_rfl) (by kernel_rfl) (by kernel_rfl) (by kernel_rfl) (by omega) hcp_) ?_
    refine SL.v (.pointer (some ⟨g, 0 * 2, none⟩)) ?_
    refine SL.v (.pointer (some ⟨g, 0 * 2, none⟩)) ?_
    refine SL.storeH (i := 2) (g := g) (off := 0 * 2) (v := .slice (some ⟨(tailE E9).b, (tailE E9).off, none⟩) ((tailE E9).xs.length) ((tailE E9).c)) (C' := ⟨qcells (q.set 0 (tailE E9)) ++ pad⟩) (L' := [rowH 5 1 a_13 (E9.xs.getD 0 itm0).bs.length c_14 (bcells (E9.xs.getD 0 itm0).bs), pt Q #[.slice (some ⟨g, 0, none⟩) (N + 1) c] 51, pt g ⟨qcells (q.set 0 (tailE E9)) ++ pad⟩ 55, pt g_1 #[.int .i64 0, .int .i64 0, .slice none 0 0, .int .i64 0, .int .u8 0, .bool false, .bool false, .int .i64 0, .int .i64 0, .int .i64 0] 39, pt g_9 #[.int .i64 ((E9.xs.getD 0 itm0).at_), .int .i64 ((E9.xs.getD 0 itm0).kd), .slice a_13 ((E9.xs.getD 0 itm0).bs.length) c_14, .int .i64 ((E9.xs.getD 0 itm0).k0), .int .u8 ((E9.xs.getD 0 itm0).k1), .bool ((E9.xs.getD 0 itm0).k2), .bool ((E9.xs.getD 0 itm0).k3), .int .i64 ((E9.xs.getD 0 itm0).rw_), .int .i64 ((E9.xs.getD 0 itm0).cl), .int .i64 ((E9.n : Nat) : Int)] 39]) hs_19 rfl rfl rfl (by kernel_rfl) (by kernel_rfl) rfl (by kernel_rfl) (by kernel_rfl) (srow_room (f := qeC) (k := 2) qeC_len (l := q) (pad := pad) (i := 0) (j := 0) (m := 1) (by (try simp only [List.length_set]); (try simp only [List.length_set]); omega) (by decide)) (show setL ⟨qcells q ++ pad⟩ (0 * 2) [.slice (some ⟨(tailE E9).b, (tailE E9).off, none⟩) ((tailE E9).xs.length) ((tailE E9).c)] = ⟨qcells (q.set 0 (tailE E9)) ++ pad⟩ from flC_setP (f := qeC) (d := qe0) (k := 2) qeC_len (l := q) (pad := pad) (i := 0) (j := 0) (e := (tailE E9)) (vs := [.slice (some ⟨(tailE E9).b, (tailE E9).off, none⟩) ((tailE E9).xs.length) ((tailE E9).c)]) (by (try simp only [List.length_set]); (try simp only [List.length_set]); omega) (show 0 + 1 ≤ 2 by decide) (by first | rfl | (rw [hE9]; rfl))) rfl (fun w_20 hs_21 => ?_)
    refine SL.nil ?_
    refine CW.seq ?_
    refine CW.region ?_
    refine SL.v (.pointer (some ⟨g, 0 * 2, none⟩)) ?_
    refine SL.v (.pointer (some ⟨g, 0 * 2, none⟩)) ?_
    refine SL.v (.pointer (some ⟨g, 0 * 2, none⟩)) ?_
    refine SL.load (g := g) (off := 0 * 2) (v := .slice (some ⟨((q.set 0 (tailE E9)).getD 0 qe0).b, ((q.set 0 (tailE E9)).getD 0 qe0).off, none⟩) (((q.set 0 (tailE E9)).getD 0 qe0).xs.length) (((q.set 0 (tailE E9)).getD 0 qe0).c)) rfl rfl rfl (by kernel_rfl) (hs_21.pt_at (i := 2) rfl) (ldV_one (by kernel_rfl) (by kernel_rfl) (srow_get (qcells_get (l := q.set 0 (tailE E9)) (i := 0) (j := 0) (by (try simp only [List.length_set]); omega) (by first | rfl | (rw [hE9]; rfl))))) ?_
    refine SL.val (v := .int .i64 ((((q.set 0 (tailE E9)).getD 0 qe0).xs.length : Nat) : Int)) (w' := w_20) rfl rfl (by kernel_rfl) ?_
    refine SL.v (.bool (((((q.set 0 (tailE E9)).getD 0 qe0).xs.length : Nat) : Int) == 0)) ?_
    refine SL.nil ?_
    rcases Bool.eq_false_or_eq_true (((((q.set 0 (tailE E9)).getD 0 qe0).xs.length : Nat) : Int) == 0) with hb_22 | hb_22
    · try rw [hb_22]
      have hqhb_22 := eq_of_beq hb_22
      refine CW.cond_true (by kernel_rfl) ?_
      refine CW.region ?_
      refine SL.v (.pointer (some ⟨Q, 0, none⟩)) ?_
      refine SL.v (.iface 53 (.pointer (some ⟨Q, 0, none⟩))) ?_
      have hs_23 : SH U w w_20 [rowH 5 1 a_13 (E9.xs.getD 0 itm0).bs.length c_14 (bcells (E9.xs.getD 0 itm0).bs), pt Q #[.slice (some ⟨g, 0, none⟩) (N + 1) c] 51, pt g_1 #[.int .i64 0, .int .i64 0, .slice none 0 0, .int .i64 0, .int .u8 0, .bool false, .bool false, .int .i64 0, .int .i64 0, .int .i64 0] 39, pt g_9 #[.int .i64 ((E9.xs.getD 0 itm0).at_), .int .i64 ((E9.xs.getD 0 itm0).kd), .slice a_13 ((E9.xs.getD 0 itm0).bs.length) c_14, .int .i64 ((E9.xs.getD 0 itm0).k0), .int .u8 ((E9.xs.getD 0 itm0).k1), .bool ((E9.xs.getD 0 itm0).k2), .bool ((E9.xs.getD 0 itm0).k3), .int .i64 ((E9.xs.getD 0 itm0).rw_), .int .i64 ((E9.xs.getD 0 itm0).cl), .int .i64 ((E9.n : Nat) : Int)] 39, rowH 55 2 (some ⟨g, 0, none⟩) (N + 1) c (qcells (q.set 0 (tailE E9)))] := hs_21.toRow (i := 2) rfl (by rw [qcells_len, List.length_set, hN]) (by rw [List.length_append, qcells_len, List.length_set]; rw [List.length_append, qcells_len] at hl; exact hl) hc hm
      refine SL.callHM (hI := hMU) (f := 20) (args := #[.iface 53 (.pointer (some ⟨Q, 0, none⟩))]) (Pre := [pt Q #[.slice (some ⟨g, 0, none⟩) (N + 1) c] 51, rowH 55 2 (some ⟨g, 0, none⟩) (N + 1) c (qcells (q.set 0 (tailE E9)))]) (Rest := [rowH 5 1 a_13 (E9.xs.getD 0 itm0).bs.length c_14 (bcells (E9.xs.getD 0 itm0).bs), pt g_1 #[.int .i64 0, .int .i64 0, .slice none 0 0, .int .i64 0, .int .u8 0, .bool false, .bool false, .int .i64 0, .int .i64 0, .int .i64 0] 39, pt g_9 #[.int .i64 ((E9.xs.getD 0 itm0).at_), .int .i64 ((E9.xs.getD 0 itm0).kd), .slice a_13 ((E9.xs.getD 0 itm0).bs.length) c_14, .int .i64 ((E9.xs.getD 0 itm0).k0), .int .u8 ((E9.xs.getD 0 itm0).k1), .bool ((E9.xs.getD 0 itm0).k2), .bool ((E9.xs.getD 0 itm0).k3), .int .i64 ((E9.xs.getD 0 itm0).rw_), .int .i64 ((E9.xs.getD 0 itm0).cl), .int .i64 ((E9.n : Nat) : Int)] 39]) [1, 3] hs_23 rfl rfl (by kernel_rfl) rfl (hpop_tr Q (some ⟨g, 0, none⟩) c N (q.set 0 (tailE E9)) S w_20 (by rw [List.length_set]; exact hN) (by omega) (fun z h1 h2 => by rw [show (q.set 0 (tailE E9)).getD z qe0 = q.getD z qe0 from getD_set_ne (by omega)]; exact hS z h2) (heap_but hh0 _)) ?_
      rintro v_ Q_ w_28 ⟨⟨x_24, rfl⟩, q_25, hp_26, hh_27, rfl⟩ hs_30
      have hs_30 : SH U w w_28 [pt Q #[.slice (some ⟨g, 0, none⟩) N c] 51, rowH 55 2 (some ⟨g, 0, none⟩) N c (qcells q_25), rowH 5 1 a_13 (E9.xs.getD 0 itm0).bs.length c_14 (bcells (E9.xs.getD 0 itm0).bs), pt g_1 #[.int .i64 0, .int .i64 0, .slice none 0 0, .int .i64 0, .int .u8 0, .bool false, .bool false, .int .i64 0, .int .i64 0, .int .i64 0] 39, pt g_9 #[.int .i64 ((E9.xs.getD 0 itm0).at_), .int .i64 ((E9.xs.getD 0 itm0).kd), .slice a_13 ((E9.xs.getD 0 itm0).bs.length) c_14, .int .i64 ((E9.xs.getD 0 itm0).k0), .int .u8 ((E9.xs.getD 0 itm0).k1), .bool ((E9.xs.getD 0 itm0).k2), .bool ((E9.xs.getD 0 itm0).k3), .int .i64 ((E9.xs.getD 0 itm0).rw_), .int .i64 ((E9.xs.getD 0 itm0).cl), .int .i64 ((E9.n : Nat) : Int)] 39] := hs_30
      refine SL.nil ?_
      refine CW.seq ?_
      refine CW.region ?_
      refine SL.load (g := g_9) (off := 0) (v := .agg #[.int .i64 ((E9.xs.getD 0 itm0).at_), .int .i64 ((E9.xs.getD 0 itm0).kd), .slice a_13 ((E9.xs.getD 0 itm0).bs.length) c_14, .int .i64 ((E9.xs.getD 0 itm0).k0), .int .u8 ((E9.xs.getD 0 itm0).k1), .bool ((E9.xs.getD 0 itm0).k2), .bool ((E9.xs.getD 0 itm0).k3), .int .i64 ((E9.xs.getD 0 itm0).rw_), .int .i64 ((E9.xs.getD 0 itm0).cl), .int .i64 ((E9.n : Nat) : Int)]) rfl rfl rfl (by kernel_rfl) (hs_30.pt_at (i := 4) rfl) (by kernel_rfl) ?_
      refine SL.storeH (i := 3) (g := g_1) (off := 0) (v := .agg #[.int .i64 ((E9.xs.getD 0 itm0).at_), .int .i64 ((E9.xs.getD 0 itm0).kd), .slice a_13 ((E9.xs.getD 0 itm0).bs.length) c_14, .int .i64 ((E9.xs.getD 0 itm0).k0), .int .u8 ((E9.xs.getD 0 itm0).k1), .bool ((E9.xs.getD 0 itm0).k2), .bool ((E9.xs.getD 0 itm0).k3), .int .i64 ((E9.xs.getD 0 itm0).rw_), .int .i64 ((E9.xs.getD 0 itm0).cl), .int .i64 ((E9.n : Nat) : Int)]) (L' := [pt Q #[.slice (some ⟨g, 0, none⟩) N c] 51, rowH 55 2 (some ⟨g, 0, none⟩) N c (qcells q_25), rowH 5 1 a_13 (E9.xs.getD 0 itm0).bs.length c_14 (bcells (E9.xs.getD 0 itm0).bs), pt g_1 #[.int .i64 ((E9.xs.getD 0 itm0).at_), .int .i64 ((E9.xs.getD 0 itm0).kd), .slice a_13 ((E9.xs.getD 0 itm0).bs.length) c_14, .int .i64 ((E9.xs.getD 0 itm0).k0), .int .u8 ((E9.xs.getD 0 itm0).k1), .bool ((E9.xs.getD 0 itm0).k2), .bool ((E9.xs.getD 0 itm0).k3), .int .i64 ((E9.xs.getD 0 itm0).rw_), .int .i64 ((E9.xs.getD 0 itm0).cl), .int .i64 ((E9.n : Nat) : Int)] 39, pt g_9 #[.int .i64 ((E9.xs.getD 0 itm0).at_), .int .i64 ((E9.xs.getD 0 itm0).kd), .slice a_13 ((E9.xs.getD 0 itm0).bs.length) c_14, .int .i64 ((E9.xs.getD 0 itm0).k0), .int .u8 ((E9.xs.getD 0 itm0).k1), .bool ((E9.xs.getD 0 itm0).k2), .bool ((E9.xs.getD 0 itm0).k3), .int .i64 ((E9.xs.getD 0 itm0).rw_), .int .i64 ((E9.xs.getD 0 itm0).cl), .int .i64 ((E9.n : Nat) : Int)] 39]) hs_30 rfl rfl rfl (by kernel_rfl) (by kernel_rfl) rfl (by kernel_rfl) (by kernel_rfl) rfl (by kernel_rfl) rfl (fun w_31 hs_32 => ?_)
      refine SL.nil ?_
      refine CW.ret ?_
      repeat with_reducible first | refine PThen.ret ?_ | refine PBlock.ret ?_
      refine PRet.cell (t := 2) (ty := 39) (g := g_1) (v := .agg #[.int .i64 ((E9.xs.getD 0 itm0).at_), .int .i64 ((E9.xs.getD 0 itm0).kd), .slice a_13 ((E9.xs.getD 0 itm0).bs.length) c_14, .int .i64 ((E9.xs.getD 0 itm0).k0), .int .u8 ((E9.xs.getD 0 itm0).k1), .bool ((E9.xs.getD 0 itm0).k2), .bool ((E9.xs.getD 0 itm0).k3), .int .i64 ((E9.xs.getD 0 itm0).rw_), .int .i64 ((E9.xs.getD 0 itm0).cl), .int .i64 ((E9.n : Nat) : Int)]) rfl rfl (by kernel_rfl) (hs_32.pt_at (i := 3) rfl) (by kernel_rfl) ?_
      have hz_ : (tailE E9).xs.length = 0 := by have h_ := hb_22; rw [hset_] at h_; have h2_ := eq_of_beq h_; omega
      have hp_ := hp_26
      rw [hset_] at hp_
      exact ⟨_, _, rfl, ⟨a_13, c_14, N, q_25, rfl, (by have h_ := hp_.length_eq; rw [List.length_cons, List.length_set, hN] at h_; omega), .inl ⟨hz_, hp_⟩, hh_27, rfl⟩, hs_32.pick [0, 0, 0] rfl⟩
    · try rw [hb_22]
      have hqhb_22 := beq_false_ne hb_22
      refine CW.cond_false (by kernel_rfl) ?_
      refine CW.region ?_
      refine SL.v (.pointer (some ⟨Q, 0, none⟩)) ?_
      refine SL.v (.iface 53 (.pointer (some ⟨Q, 0, none⟩))) ?_
      have hs_33 : SH U w w_20 [rowH 5 1 a_13 (E9.xs.getD 0 itm0).bs.length c_14 (bcells (E9.xs.getD 0 itm0).bs), pt Q #[.slice (some ⟨g, 0, none⟩) (N + 1) c] 51, pt g_1 #[.int .i64 0, .int .i64 0, .slice none 0 0, .int .i64 0, .int .u8 0, .bool false, .bool false, .int .i64 0, .int .i64 0, .int .i64 0] 39, pt g_9 #[.int .i64 ((E9.xs.getD 0 itm0).at_), .int .i64 ((E9.xs.getD 0 itm0).kd), .slice a_13 ((E9.xs.getD 0 itm0).bs.length) c_14, .int .i64 ((E9.xs.getD 0 itm0).k0), .int .u8 ((E9.xs.getD 0 itm0).k1), .bool ((E9.xs.getD 0 itm0).k2), .bool ((E9.xs.getD 0 itm0).k3), .int .i64 ((E9.xs.getD 0 itm0).rw_), .int .i64 ((E9.xs.getD 0 itm0).cl), .int .i64 ((E9.n : Nat) : Int)] 39, rowH 55 2 (some ⟨g, 0, none⟩) (N + 1) c (qcells (q.set 0 (tailE E9)))] := hs_21.toRow (i := 2) rfl (by rw [qcells_len, List.length_set, hN]) (by rw [List.length_append, qcells_len, List.length_set]; rw [List.length_append, qcells_len] at hl; exact hl) hc hm
      have htl_ : 0 < (tailE E9).xs.length := by have h_ := hb_22; rw [hset_] at h_; have h2_ := beq_false_ne h_; omega
      refine SL.callHM (hI := (fun w' h => show QI (tailE E9 :: S) w' from fun e he => by rcases List.mem_cons.1 he with rfl | he; exact ⟨htl_, tail_at ((hMU w' h) _ h0S).2 htl_⟩; exact hMU w' h e he)) (f := 21) (args := #[.iface 53 (.pointer (some ⟨Q, 0, none⟩)), .int .i64 0]) (Pre := [pt Q #[.slice (some ⟨g, 0, none⟩) (N + 1) c] 51, rowH 55 2 (some ⟨g, 0, none⟩) (N + 1) c (qcells (q.set 0 (tailE E9)))]) (Rest := [rowH 5 1 a_13 (E9.xs.getD 0 itm0).bs.length c_14 (bcells (E9.xs.getD 0 itm0).bs), pt g_1 #[.int .i64 0, .int .i64 0, .slice none 0 0, .int .i64 0, .int .u8 0, .bool false, .bool false, .int .i64 0, .int .i64 0, .int .i64 0] 39, pt g_9 #[.int .i64 ((E9.xs.getD 0 itm0).at_), .int .i64 ((E9.xs.getD 0 itm0).kd), .slice a_13 ((E9.xs.getD 0 itm0).bs.length) c_14, .int .i64 ((E9.xs.getD 0 itm0).k0), .int .u8 ((E9.xs.getD 0 itm0).k1), .bool ((E9.xs.getD 0 itm0).k2), .bool ((E9.xs.getD 0 itm0).k3), .int .i64 ((E9.xs.getD 0 itm0).rw_), .int .i64 ((E9.xs.getD 0 itm0).cl), .int .i64 ((E9.n : Nat) : Int)] 39]) [1, 3] hs_33 rfl rfl (by kernel_rfl) rfl (hfix_tr Q (some ⟨g, 0, none⟩) c (N + 1) (q.set 0 (tailE E9)) (tailE E9 :: S) w_20 (by rw [List.length_set]; exact hN) (by omega) (by omega) (fun z h1 => by by_cases h_ : z = 0; subst h_; rw [hset_]; simp; rw [show (q.set 0 (tailE E9)).getD z qe0 = q.getD z qe0 from getD_set_ne (by omega)]; exact List.mem_cons_of_mem _ (hS z h1)) (heap_but hh0 _)) ?_
      rintro v_ Q_ w_37 ⟨rfl, q_34, hp_35, hh_36, rfl⟩ hs_39
      have hs_39 : SH U w w_37 [pt Q #[.slice (some ⟨g, 0, none⟩) (N + 1) c] 51, rowH 55 2 (some ⟨g, 0, none⟩) (N + 1) c (qcells q_34), rowH 5 1 a_13 (E9.xs.getD 0 itm0).bs.length c_14 (bcells (E9.xs.getD 0 itm0).bs), pt g_1 #[.int .i64 0, .int .i64 0, .slice none 0 0, .int .i64 0, .int .u8 0, .bool false, .bool false, .int .i64 0, .int .i64 0, .int .i64 0] 39, pt g_9 #[.int .i64 ((E9.xs.getD 0 itm0).at_), .int .i64 ((E9.xs.getD 0 itm0).kd), .slice a_13 ((E9.xs.getD 0 itm0).bs.length) c_14, .int .i64 ((E9.xs.getD 0 itm0).k0), .int .u8 ((E9.xs.getD 0 itm0).k1), .bool ((E9.xs.getD 0 itm0).k2), .bool ((E9.xs.getD 0 itm0).k3), .int .i64 ((E9.xs.getD 0 itm0).rw_), .int .i64 ((E9.xs.getD 0 itm0).cl), .int .i64 ((E9.n : Nat) : Int)] 39] := hs_39
      refine SL.nil ?_
      refine CW.seq ?_
      refine CW.region ?_
      refine SL.load (g := g_9) (off := 0) (v := .agg #[.int .i64 ((E9.xs.getD 0 itm0).at_), .int .i64 ((E9.xs.getD 0 itm0).kd), .slice a_13 ((E9.xs.getD 0 itm0).bs.length) c_14, .int .i64 ((E9.xs.getD 0 itm0).k0), .int .u8 ((E9.xs.getD 0 itm0).k1), .bool ((E9.xs.getD 0 itm0).k2), .bool ((E9.xs.getD 0 itm0).k3), .int .i64 ((E9.xs.getD 0 itm0).rw_), .int .i64 ((E9.xs.getD 0 itm0).cl), .int .i64 ((E9.n : Nat) : Int)]) rfl rfl rfl (by kernel_rfl) (hs_39.pt_at (i := 4) rfl) (by kernel_rfl) ?_
      refine SL.storeH (i := 3) (g := g_1) (off := 0) (v := .agg #[.int .i64 ((E9.xs.getD 0 itm0).at_), .int .i64 ((E9.xs.getD 0 itm0).kd), .slice a_13 ((E9.xs.getD 0 itm0).bs.length) c_14, .int .i64 ((E9.xs.getD 0 itm0).k0), .int .u8 ((E9.xs.getD 0 itm0).k1), .bool ((E9.xs.getD 0 itm0).k2), .bool ((E9.xs.getD 0 itm0).k3), .int .i64 ((E9.xs.getD 0 itm0).rw_), .int .i64 ((E9.xs.getD 0 itm0).cl), .int .i64 ((E9.n : Nat) : Int)]) (L' := [pt Q #[.slice (some ⟨g, 0, none⟩) (N + 1) c] 51, rowH 55 2 (some ⟨g, 0, none⟩) (N + 1) c (qcells q_34), rowH 5 1 a_13 (E9.xs.getD 0 itm0).bs.length c_14 (bcells (E9.xs.getD 0 itm0).bs), pt g_1 #[.int .i64 ((E9.xs.getD 0 itm0).at_), .int .i64 ((E9.xs.getD 0 itm0).kd), .slice a_13 ((E9.xs.getD 0 itm0).bs.length) c_14, .int .i64 ((E9.xs.getD 0 itm0).k0), .int .u8 ((E9.xs.getD 0 itm0).k1), .bool ((E9.xs.getD 0 itm0).k2), .bool ((E9.xs.getD 0 itm0).k3), .int .i64 ((E9.xs.getD 0 itm0).rw_), .int .i64 ((E9.xs.getD 0 itm0).cl), .int .i64 ((E9.n : Nat) : Int)] 39, pt g_9 #[.int .i64 ((E9.xs.getD 0 itm0).at_), .int .i64 ((E9.xs.getD 0 itm0).kd), .slice a_13 ((E9.xs.getD 0 itm0).bs.length) c_14, .int .i64 ((E9.xs.getD 0 itm0).k0), .int .u8 ((E9.xs.getD 0 itm0).k1), .bool ((E9.xs.getD 0 itm0).k2), .bool ((E9.xs.getD 0 itm0).k3), .int .i64 ((E9.xs.getD 0 itm0).rw_), .int .i64 ((E9.xs.getD 0 itm0).cl), .int .i64 ((E9.n : Nat) : Int)] 39]) hs_39 rfl rfl rfl (by kernel_rfl) (by kernel_rfl) rfl (by kernel_rfl) (by kernel_rfl) rfl (by kernel_rfl) rfl (fun w_40 hs_41 => ?_)
      refine SL.nil ?_
      refine CW.ret ?_
      repeat with_reducible first | refine PThen.ret ?_ | refine PBlock.ret ?_
      refine PRet.cell (t := 2) (ty := 39) (g := g_1) (v := .agg #[.int .i64 ((E9.xs.getD 0 itm0).at_), .int .i64 ((E9.xs.getD 0 itm0).kd), .slice a_13 ((E9.xs.getD 0 itm0).bs.length) c_14, .int .i64 ((E9.xs.getD 0 itm0).k0), .int .u8 ((E9.xs.getD 0 itm0).k1), .bool ((E9.xs.getD 0 itm0).k2), .bool ((E9.xs.getD 0 itm0).k3), .int .i64 ((E9.xs.getD 0 itm0).rw_), .int .i64 ((E9.xs.getD 0 itm0).cl), .int .i64 ((E9.n : Nat) : Int)]) rfl rfl (by kernel_rfl) (hs_41.pt_at (i := 3) rfl) (by kernel_rfl) ?_
      exact ⟨_, _, rfl, ⟨a_13, c_14, N + 1, q_34, rfl, (by rw [hp_35.length_eq, List.length_set, hN]), .inr ⟨htl_, hp_35⟩, hh_36, rfl⟩, hs_41.pick [0, 0, 0] rfl⟩
end Go.Proofs.Ytaelmkkobjdgbaa
