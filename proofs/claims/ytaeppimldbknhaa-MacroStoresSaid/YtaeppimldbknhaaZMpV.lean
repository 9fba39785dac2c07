/-
  The law's own functions: short, do, Is (gen_mpv.py).
-/
import Derived.Test.YtaeppimldbknhaaZMpU
namespace Go.Proofs.Ytaeppimldbknhaa
set_option linter.unusedSimpArgs false
set_option linter.unusedVariables false
open Go.RowKit Go.Maps
set_option linter.unusedVariables false

theorem short_n (d : List UInt8) (n : Nat) (w : World) (hn : n ≤ 1000000) (hl : d.length ≤ maxLen) : Calls Try.prog 8 #[.string (bsl d), .int .i64 ((n : Nat) : Int)] w fun e w' => e = .returned (.string (bsl (d.take n))) ∧ Gr w w' :=
  (short_any d n w hn hl).mono fun e w' h => ⟨h.1, by rw [← h.2]; exact Gr.refl w⟩
def idsL (l : List Mac) : List Int := l.map (·.1)
theorem idsL_len (l : List Mac) : (idsL l).length = l.length := by simp [idsL]
theorem idsL_get (l : List Mac) (k : Nat) : ((idsL l).getD k 0 == (l.getD k mac0).1) = true := by
  unfold idsL
  rw [List.getD_eq_getElem?_getD, List.getD_eq_getElem?_getD, List.getElem?_map]
  cases l[k]? <;> simp [mac0]
theorem icells_get {l : List Int} {i j : Nat} {v : Value} (h : i < l.length) (hj : ([.int .i64 (l.getD i 0)] : List Value)[j]? = some v) : (icells l)[i + j]? = some v := by
  cases j with
  | zero =>
    simp only [List.getElem?_cons_zero, Option.some.injEq] at hj
    subst hj
    show (List.map _ l)[i]? = _
    rw [List.getElem?_map, List.getD_eq_getElem?_getD, List.getElem?_eq_getElem h]
    rfl
  | succ j => simp at hj
theorem mac_wf {l : List Mac} (h : MacOk l) (k : Nat) : (Lit.int .i64 (l.getD k mac0).1).wf = true := by
  by_cases hk : k < l.length
  · have := h.rng _ (List.getElem_mem hk)
    rw [List.getD_eq_getElem?_getD, List.getElem?_eq_getElem hk, Option.getD_some]
    exact wf_i64 (by omega) (by omega)
  · rw [List.getD_eq_getElem?_getD, List.getElem?_eq_none (by omega)]
    exact wf_i64 (by decide) (by decide)
theorem mac_len {l : List Mac} (h : MacOk l) (k : Nat) : (l.getD k mac0).2.length ≤ 6144 := by
  by_cases hk : k < l.length
  · have := used_mem (List.getElem_mem hk)
    have := h.used
    rw [List.getD_eq_getElem?_getD, List.getElem?_eq_getElem hk, Option.getD_some]
    omega
  · rw [List.getD_eq_getElem?_getD, List.getElem?_eq_none (by omega)]
    exact Nat.zero_le _
theorem getL_of_at {l : List Mac} (h : MacOk l) {k : Nat} (hk : k < l.length) : getL l (l.getD k mac0).1 = some (l.getD k mac0).2 := by
  rw [List.getD_eq_getElem?_getD, List.getElem?_eq_getElem hk, Option.getD_some]
  exact getL_rise h.rise (List.getElem_mem hk)
theorem ids_l (g : Nat) (ob : Option Nat) (n : Nat) (l : List Mac) (w : World) (hk9 : MacOk l) : Tr Try.prog 36 #[.pointer (some ⟨g, 0, none⟩)] w [pt g #[.map ob] 35, oH ob n (macD l)] (fun v Q => ∃ a c, v = .slice a (idsL l).length c ∧ Q = [rowH 3 1 a (idsL l).length c (icells (idsL l)), pt g #[.map ob] 35, oH ob n (macD l)]) := by
  have h := ids_o g ob n l w hk9
  rw [← idsL_len l] at h
  exact h
theorem space_l (g : Nat) (ob : Option Nat) (n : Nat) (l : List Mac) (w : World) (hk9 : MacOk l) : Tr Try.prog 13 #[.pointer (some ⟨g, 0, none⟩)] w [pt g #[.map ob] 35, oH ob n (macD l)] (fun v Q => v = .int .i64 (6144 - ((usedL l : Nat) : Int)) ∧ Q = [pt g #[.map ob] 35, oH ob n (macD l)]) := by
  have hok : OOk n (macD l) → Tr Try.prog 13 #[.pointer (some ⟨g, 0, none⟩)] w [pt g #[.map ob] 35, oH ob n (macD l)] (fun v Q => v = .int .i64 (6144 - ((usedL l : Nat) : Int)) ∧ Q = [pt g #[.map ob] 35, oH ob n (macD l)]) := fun hk => by
    have h := space_o g ob n (macD l) w hk (by rw [macD_tot]; exact hk9.used)
    rw [macD_tot] at h
    exact h
  intro fp hfp
  exact hok ((SH.init hfp).oOk (i := 1) rfl) fp hfp
theorem get_at (g : Nat) (ob : Option Nat) (n : Nat) (l : List Mac) (k : Nat) (w : World) (hk9 : MacOk l) (hk : k < l.length) : Tr Try.prog 19 #[.pointer (some ⟨g, 0, none⟩), .int .i64 (l.getD k mac0).1] w [pt g #[.map ob] 35, oH ob n (macD l)] (fun v Q => v = .tuple #[.string (bsl (l.getD k mac0).2), .bool true] ∧ Q = [pt g #[.map ob] 35, oH ob n (macD l)]) := by
  have h := get_o g ob n l (l.getD k mac0).1 w (mac_wf hk9 k)
  rw [getL_of_at hk9 hk] at h
  exact h
set_option maxRecDepth 100000 in
set_option maxHeartbeats 4000000 in
theorem is_tr (g : Nat) (ob : Option Nat) (n : Nat) (l : List Mac) (a : Option Addr) (ca : Nat) (w : World) (hk9 : MacOk l) : Tr Try.prog 17 #[.pointer (some ⟨g, 0, none⟩), .slice a (l).length ca] w [pt g #[.map ob] 35, oH ob n (macD l), rowH 77 2 a (l).length ca (mcells l)] (fun v Q => v = .bool true ∧ Q = [pt g #[.map ob] 35, oH ob n (macD l), rowH 77 2 a (l).length ca (mcells l)]) := by
  have hn9 := rise_len hk9
  have hu9 := hk9.used
  refine Tr.of fun U hs0 => ?_
  refine calls_sx (n := 69) (args := [.pointer (some ⟨g, 0, none⟩), .slice a ((l).length) ca]) Try.func17 rfl rfl rfl ?_
  refine CW.seq ?_
  refine CW.region ?_
  refine SL.v (.bool false) ?_
  refine SL.nil ?_
  refine CW.seq ?_
  refine CW.region ?_
  refine SL.v (.pointer (some ⟨g, 0, none⟩)) ?_
  refine SL.callH (f := 36) (args := #[.pointer (some ⟨g, 0, none⟩)]) (Pre := [pt g #[.map ob] 35, oH ob n (macD l)]) (Rest := [rowH 77 2 a (l).length ca (mcells l)]) [0, 0] hs0 rfl rfl (by kernel_rfl) rfl (ids_l g ob n l w hk9) ?_
  rintro v_ Q_ w_3 ⟨a_1, c_2, rfl, rfl⟩ hs_5
  have hs_5 : SH U w w_3 [rowH 3 1 a_1 (idsL l).length c_2 (icells (idsL l)), pt g #[.map ob] 35, oH ob n (macD l), rowH 77 2 a (l).length ca (mcells l)] := hs_5
  refine SL.v (.slice a_1 ((idsL l).length) c_2) ?_
  refine SL.nil ?_
  refine CW.seq ?_
  refine CW.seq ?_
  refine CW.region ?_
  refine SL.v (.slice a_1 ((idsL l).length) c_2) ?_
  refine SL.val (v := .int .i64 (((idsL l).length : Nat) : Int)) (w' := w_3) rfl rfl (by kernel_rfl) ?_
  refine SL.v (.slice a ((l).length) ca) ?_
  refine SL.val (v := .int .i64 (((l).length : Nat) : Int)) (w' := w_3) rfl rfl (by kernel_rfl) ?_
  refine SL.v (.bool (!((((idsL l).length : Nat) : Int) == (((l).length : Nat) : Int)))) ?_
  refine SL.v (.bool (!((((idsL l).length : Nat) : Int) == (((l).length : Nat) : Int)))) ?_
  have hb_6 : ((((idsL l).length : Nat) : Int) == (((l).length : Nat) : Int)) = true := (by rw [idsL_len]; exact beq_self_eq_true _)
  rw [hb_6]
  refine SL.go ?_
  refine SL.v (.pointer (some ⟨g, 0, none⟩)) ?_
  refine SL.go ?_
  refine SL.callH (f := 13) (args := #[.pointer (some ⟨g, 0, none⟩)]) (Pre := [pt g #[.map ob] 35, oH ob n (macD l)]) (Rest := [rowH 3 1 a_1 (idsL l).length c_2 (icells (idsL l)), rowH 77 2 a (l).length ca (mcells l)]) [1, 1] hs_5 rfl rfl (by kernel_rfl) rfl (space_l g ob n l w_3 hk9) ?_
  rintro v_ Q_ w_7 ⟨rfl, rfl⟩ hs_9
  have hs_9 : SH U w w_7 [pt g #[.map ob] 35, oH ob n (macD l), rowH 3 1 a_1 (idsL l).length c_2 (icells (idsL l)), rowH 77 2 a (l).length ca (mcells l)] := hs_9
  refine SL.go ?_
  refine SL.v (.slice a ((l).length) ca) ?_
  refine SL.go ?_
  refine SL.callH (f := 37) (args := #[.slice a ((l).length) ca]) (Pre := [rowH 77 2 a (l).length ca (mcells l)]) (Rest := [pt g #[.map ob] 35, oH ob n (macD l), rowH 3 1 a_1 (idsL l).length c_2 (icells (idsL l))]) [3] hs_9 rfl rfl (by kernel_rfl) rfl (rused_tr a ca l w_7 (by have := hk9.used; omega) (by omega)) ?_
  rintro v_ Q_ w_10 ⟨rfl, rfl⟩ hs_12
  have hs_12 : SH U w w_10 [rowH 77 2 a (l).length ca (mcells l), pt g #[.map ob] 35, oH ob n (macD l), rowH 3 1 a_1 (idsL l).length c_2 (icells (idsL l))] := hs_12
  refine SL.go ?_
  refine SL.val (v := .int .i64 (6144 - ((usedL l : Nat) : Int))) (w' := w_10) rfl rfl (by have hw : IntKind.i64.wrap (6144 - ((usedL l : Nat) : Int)) = 6144 - ((usedL l : Nat) : Int) := IntWalk.i64_in _ (by omega); exact run_eqv (by kernel_rfl) (congrArg (fun z => Value.int .i64 z) hw)) ?_
  refine SL.go ?_
  refine SL.v (.bool (!((6144 - ((usedL l : Nat) : Int)) == (6144 - ((usedL l : Nat) : Int))))) ?_
  refine SL.v (.bool (!((6144 - ((usedL l : Nat) : Int)) == (6144 - ((usedL l : Nat) : Int))))) ?_
  refine SL.v (.bool (!((6144 - ((usedL l : Nat) : Int)) == (6144 - ((usedL l : Nat) : Int))))) ?_
  have hb_13 : ((6144 - ((usedL l : Nat) : Int)) == (6144 - ((usedL l : Nat) : Int))) = true := (beq_self_eq_true _)
  rw [hb_13]
  refine SL.go ?_
  refine SL.v (.pointer (some ⟨g, 0, none⟩)) ?_
  refine SL.go ?_
  refine SL.callH (f := 13) (args := #[.pointer (some ⟨g, 0, none⟩)]) (Pre := [pt g #[.map ob] 35, oH ob n (macD l)]) (Rest := [rowH 77 2 a (l).length ca (mcells l), rowH 3 1 a_1 (idsL l).length c_2 (icells (idsL l))]) [1, 1] hs_12 rfl rfl (by kernel_rfl) rfl (space_l g ob n l w_10 hk9) ?_
  rintro v_ Q_ w_14 ⟨rfl, rfl⟩ hs_16
  have hs_16 : SH U w w_14 [pt g #[.map ob] 35, oH ob n (macD l), rowH 77 2 a (l).length ca (mcells l), rowH 3 1 a_1 (idsL l).length c_2 (icells (idsL l))] := hs_16
  refine SL.go ?_
  refine SL.v (.bool (decide ((6144 - ((usedL l : Nat) : Int)) < 0))) ?_
  refine SL.v (.bool (decide ((6144 - ((usedL l : Nat) : Int)) < 0))) ?_
  refine SL.v (.bool (decide ((6144 - ((usedL l : Nat) : Int)) < 0))) ?_
  have hb_17 : (decide ((6144 - ((usedL l : Nat) : Int)) < 0)) = false := (decide_eq_false (by have := hk9.used; omega))
  rw [hb_17]
  have hqhb_17 := of_decide_eq_false hb_17
  refine SL.go ?_
  refine SL.v (.pointer (some ⟨g, 0, none⟩)) ?_
  refine SL.go ?_
  refine SL.callH (f := 38) (args := #[.pointer (some ⟨g, 0, none⟩)]) (Pre := [pt g #[.map ob] 35, oH ob n (macD l)]) (Rest := [rowH 77 2 a (l).length ca (mcells l), rowH 3 1 a_1 (idsL l).length c_2 (icells (idsL l))]) [0, 0] hs_16 rfl rfl (by kernel_rfl) rfl (sum_o g ob n l w_14 hk9) ?_
  rintro v_ Q_ w_18 ⟨rfl, rfl⟩ hs_20
  have hs_20 : SH U w w_18 [pt g #[.map ob] 35, oH ob n (macD l), rowH 77 2 a (l).length ca (mcells l), rowH 3 1 a_1 (idsL l).length c_2 (icells (idsL l))] := hs_20
  refine SL.go ?_
  refine SL.v (.slice a ((l).length) ca) ?_
  refine SL.go ?_
  refine SL.callH (f := 39) (args := #[.slice a ((l).length) ca]) (Pre := [rowH 77 2 a (l).length ca (mcells l)]) (Rest := [pt g #[.map ob] 35, oH ob n (macD l), rowH 3 1 a_1 (idsL l).length c_2 (icells (idsL l))]) [2] hs_20 rfl rfl (by kernel_rfl) rfl (rsum_tr a ca l w_18 (by omega) (fun k => Nat.le_trans (mac_len hk9 k) (by decide))) ?_
  rintro v_ Q_ w_21 ⟨rfl, rfl⟩ hs_23
  have hs_23 : SH U w w_21 [rowH 77 2 a (l).length ca (mcells l), pt g #[.map ob] 35, oH ob n (macD l), rowH 3 1 a_1 (idsL l).length c_2 (icells (idsL l))] := hs_23
  refine SL.go ?_
  refine SL.v (.bool (!(((sumL l % 65536 : Nat) : Int) == ((sumL l % 65536 : Nat) : Int)))) ?_
  refine SL.v (.bool (!(((sumL l % 65536 : Nat) : Int) == ((sumL l % 65536 : Nat) : Int)))) ?_
  refine SL.nil ?_
  have hb_24 : (((sumL l % 65536 : Nat) : Int) == ((sumL l % 65536 : Nat) : Int)) = true := (beq_self_eq_true _)
  rw [hb_24]
  refine CW.cond_false (by kernel_rfl) ?_
  refine CW.skip ?_
  refine CW.seq ?_
  refine CW.seq ?_
  refine CW.region ?_
  refine SL.v (.slice a ((l).length) ca) ?_
  refine SL.val (v := .int .i64 (((l).length : Nat) : Int)) (w' := w_21) rfl rfl (by kernel_rfl) ?_
  refine SL.v (.int .i64 0) ?_
  refine SL.nil ?_
  refine CW.block ?_
  refine CW.loopI (fun m_ e9 w9 => ∃ (k : Nat), m_ = (l).length - k ∧ SH U w w9 [rowH 77 2 a (l).length ca (mcells l), pt g #[.map ob] 35, oH ob n (macD l), rowH 3 1 a_1 (idsL l).length c_2 (icells (idsL l))] ∧ (k ≤ (l).length) ∧ e9 0 = .pointer (some ⟨g, 0, none⟩) ∧ e9 4 = .bool false ∧ e9 5 = .slice a_1 ((idsL l).length) c_2 ∧ e9 37 = .slice a ((l).length) ca ∧ e9 38 = .int .i64 (((l).length : Nat) : Int) ∧ e9 39 = .int .i64 ((k : Nat) : Int)) ⟨_, 0, rfl, hs_23, (Nat.zero_le _), (by kernel_rfl), (by kernel_rfl), (by kernel_rfl), (by kernel_rfl), (by kernel_rfl), (by kernel_rfl)⟩ ?_
  rintro m_25 e_26 w_27 ⟨k, hm_29, hs_28, hk, hv_30, hv_31, hv_32, hv_33, hv_34, hv_35⟩
  obtain ⟨e_36, rfl⟩ : ∃ e_36, e_26 = put1 (put1 (put1 (put1 (put1 (put1 e_36 0 (.pointer (some ⟨g, 0, none⟩))) 4 (.bool false)) 5 (.slice a_1 ((idsL l).length) c_2)) 37 (.slice a ((l).length) ca)) 38 (.int .i64 (((l).length : Nat) : Int))) 39 (.int .i64 ((k : Nat) : Int)) := ⟨e_26, (put_self hv_35).trans (congrArg (fun z => put1 z 39 (.int .i64 ((k : Nat) : Int))) ((put_self hv_34).trans (congrArg (fun z => put1 z 38 (.int .i64 (((l).length : Nat) : Int))) ((put_self hv_33).trans (congrArg (fun z => put1 z 37 (.slice a ((l).length) ca)) ((put_self hv_32).trans (congrArg (fun z => put1 z 5 (.slice a_1 ((idsL l).length) c_2)) ((put_self hv_31).trans (congrArg (fun z => put1 z 4 (.bool false)) (put_self hv_30))))))))))⟩
  clear hv_30 hv_31 hv_32 hv_33 hv_34 hv_35
  have hid_ := idsL_get l k
  have hil_ := idsL_len l
  refine CW.seq ?_
  refine CW.region ?_
  refine SL.v (.bool (decide (((k : Nat) : Int) < (((l).length : Nat) : Int)))) ?_
  refine SL.nil ?_
  refine CW.seq ?_
  rcases Bool.eq_false_or_eq_true (decide (((k : Nat) : Int) < (((l).length : Nat) : Int))) with hb_37 | hb_37
  · try rw [hb_37]
    have hqhb_37 := of_decide_eq_true hb_37
    refine CW.cond_true (by kernel_rfl) ?_
    refine CW.skip ?_
    refine CW.seq ?_
    refine CW.block ?_
    refine CW.seq ?_
    refine CW.region ?_
    refine SL.v (.int .i64 ((k : Nat) : Int)) ?_
    obtain ⟨g_38, ha_39⟩ := hs_28.row_some (i := 0) rfl (show 0 < (l).length by omega)
    refine SL.val (v := .pointer (some ⟨g_38, k * 2, none⟩)) (w' := w_27) rfl rfl (run_ixR (len := (l).length) (cap := ca) (q := .i64) (I := ((k : Nat) : Int)) (i := k) (size := 2) ha_39 rfl (by kernel_rfl) (by kernel_rfl) rfl (by kernel_rfl) (by kernel_rfl) (by omega)) ?_
    refine SL.load (g := g_38) (off := k * 2) (v := .agg #[.int .i64 ((l.getD k mac0).1), .string (bsl ((l.getD k mac0).2))]) rfl rfl rfl (by kernel_rfl) (hs_28.row_blk (i := 0) ha_39 rfl) (ldV_row (k := 2) (by kernel_rfl) (by kernel_rfl) (hs_28.row_many (i := 0) ha_39 rfl (mcells_part (i := k) (j := 0) (by omega) rfl rfl) rfl) rfl rfl) ?_
    refine SL.newH (mk := fun g => .pointer (some ⟨g, 0, none⟩)) (C := #[.int .i64 0, .string ⟨#[]⟩]) (T := 77) hs_28 rfl rfl (by kernel_rfl) (fun g_40 w_41 hs_42 => ?_)
    have hs_42 : SH U w w_41 [rowH 77 2 a (l).length ca (mcells l), pt g #[.map ob] 35, oH ob n (macD l), rowH 3 1 a_1 (idsL l).length c_2 (icells (idsL l)), pt g_40 #[.int .i64 0, .string ⟨#[]⟩] 77] := hs_42
    refine SL.v (.int .i64 ((k : Nat) : Int)) ?_
    refine SL.storeH (i := 4) (g := g_40) (off := 0) (v := .agg #[.int .i64 ((l.getD k mac0).1), .string (bsl ((l.getD k mac0).2))]) (L' := [rowH 77 2 a (l).length ca (mcells l), pt g #[.map ob] 35, oH ob n (macD l), rowH 3 1 a_1 (idsL l).length c_2 (icells (idsL l)), pt g_40 #[.int .i64 ((l.getD k mac0).1), .string (bsl ((l.getD k mac0).2))] 77]) hs_42 rfl rfl rfl (by kernel_rfl) (by kernel_rfl) rfl (by kernel_rfl) (by kernel_rfl) rfl (by kernel_rfl) rfl (fun w_43 hs_44 => ?_)
    refine SL.nil ?_
    refine CW.seq ?_
    refine CW.region ?_
    refine SL.v (.pointer (some ⟨g, 0, none⟩)) ?_
    refine SL.v (.pointer (some ⟨g_40, 0, none⟩)) ?_
    refine SL.load (g := g_40) (off := 0) (v := .int .i64 ((l.getD k mac0).1)) rfl rfl rfl (by kernel_rfl) (hs_44.pt_at (i := 4) rfl) (by kernel_rfl) ?_
    refine SL.callH (f := 19) (args := #[.pointer (some ⟨g, 0, none⟩), .int .i64 ((l.getD k mac0).1)]) (Pre := [pt g #[.map ob] 35, oH ob n (macD l)]) (Rest := [rowH 77 2 a (l).length ca (mcells l), rowH 3 1 a_1 (idsL l).length c_2 (icells (idsL l)), pt g_40 #[.int .i64 ((l.getD k mac0).1), .string (bsl ((l.getD k mac0).2))] 77]) [1, 1] hs_44 rfl rfl (by kernel_rfl) rfl (get_at g ob n l k w_43 hk9 (by omega)) ?_
    rintro v_ Q_ w_45 ⟨rfl, rfl⟩ hs_47
    have hs_47 : SH U w w_45 [pt g #[.map ob] 35, oH ob n (macD l), rowH 77 2 a (l).length ca (mcells l), rowH 3 1 a_1 (idsL l).length c_2 (icells (idsL l)), pt g_40 #[.int .i64 ((l.getD k mac0).1), .string (bsl ((l.getD k mac0).2))] 77] := hs_47
    refine SL.v (.tuple #[.string (bsl ((l.getD k mac0).2)), .bool true]) ?_
    refine SL.v (.string (bsl ((l.getD k mac0).2))) ?_
    refine SL.v (.bool true) ?_
    refine SL.v (.string (bsl ((l.getD k mac0).2))) ?_
    refine SL.v (.bool true) ?_
    refine SL.nil ?_
    refine CW.seq ?_
    obtain ⟨g_48, ha_49⟩ := hs_47.row_some (i := 3) rfl (show 0 < (idsL l).length by omega)
    have HGR : GrL [fun v _ => v = .slice a_1 ((idsL l).length) c_2, fun v _ => v = .int .i64 ((k : Nat) : Int), fun v _ => v = .pointer (some ⟨g_48, k, none⟩), fun v _ => v = .int .i64 ((idsL l).getD k 0), fun v _ => v = .pointer (some ⟨g_40, 0, none⟩), fun v _ => v = .int .i64 ((l.getD k mac0).1), fun v _ => v = .bool false, fun v _ => v = .bool false, fun v _ => v = .bool true, fun v _ => v = .bool false, fun v _ => v = .bool false, fun v _ => v = .bool false, fun v _ => v = .string (bsl ((l.getD k mac0).2)), fun v _ => v = .pointer (some ⟨g_40, 1, none⟩), fun v _ => v = .string (bsl ((l.getD k mac0).2))] := ⟨fun _ _ _ _ h => h, ⟨fun _ _ _ _ h => h, ⟨fun _ _ _ _ h => h, ⟨fun _ _ _ _ h => h, ⟨fun _ _ _ _ h => h, ⟨fun _ _ _ _ h => h, ⟨fun _ _ _ _ h => h, ⟨fun _ _ _ _ h => h, ⟨fun _ _ _ _ h => h, ⟨fun _ _ _ _ h => h, ⟨fun _ _ _ _ h => h, ⟨fun _ _ _ _ h => h, ⟨fun _ _ _ _ h => h, ⟨fun _ _ _ _ h => h, ⟨fun _ _ _ _ h => h, trivial⟩⟩⟩⟩⟩⟩⟩⟩⟩⟩⟩⟩⟩⟩⟩
    refine CW.draw 15 (FW [fun v _ => v = .slice a_1 ((idsL l).length) c_2, fun v _ => v = .int .i64 ((k : Nat) : Int), fun v _ => v = .pointer (some ⟨g_48, k, none⟩), fun v _ => v = .int .i64 ((idsL l).getD k 0), fun v _ => v = .pointer (some ⟨g_40, 0, none⟩), fun v _ => v = .int .i64 ((l.getD k mac0).1), fun v _ => v = .bool false, fun v _ => v = .bool false, fun v _ => v = .bool true, fun v _ => v = .bool false, fun v _ => v = .bool false, fun v _ => v = .bool false, fun v _ => v = .string (bsl ((l.getD k mac0).2)), fun v _ => v = .pointer (some ⟨g_40, 1, none⟩), fun v _ => v = .string (bsl ((l.getD k mac0).2))]) (fun W => Gr w_45 W) (by kernel_rfl) (by kernel_rfl) (by kernel_rfl) (by kernel_rfl) (by kernel_rfl) (Gr.refl _).drew ?_ ?_
    · refine ⟨?_, ⟨?_, ⟨?_, ⟨?_, ⟨?_, ⟨?_, ⟨?_, ⟨?_, ⟨?_, ⟨?_, ⟨?_, ⟨?_, ⟨?_, ⟨?_, ⟨?_, trivial⟩⟩⟩⟩⟩⟩⟩⟩⟩⟩⟩⟩⟩⟩⟩
      · intro L ys W hB hF hP K hK
        show OpE _ _ _ W K
        exact OpE.val (.slice a_1 ((idsL l).length) c_2) W (by kernel_rfl) (hK _ W hB rfl (fun _ _ h => h))
      · intro L ys W hB hF hP K hK
        show OpE _ _ _ W K
        exact OpE.val (.int .i64 ((k : Nat) : Int)) W (by kernel_rfl) (hK _ W hB rfl (fun _ _ h => h))
      · intro L ys W hB hF hP K hK
        show OpE _ _ _ W K
        exact OpE.known (j := 0) (v := .slice a_1 ((idsL l).length) c_2) (hF 0 (hP.1 rfl)) (OpE.known (j := 1) (v := .int .i64 ((k : Nat) : Int)) (hF 1 (hP.2.1 rfl)) (OpE.val (.pointer (some ⟨g_48, k, none⟩)) W ((run_ixR (len := (idsL l).length) (cap := c_2) (q := .i64) (I := ((k : Nat) : Int)) (i := k) (size := 1) ha_49 rfl (by kernel_rfl) (by kernel_rfl) rfl (by kernel_rfl) (by kernel_rfl) (by omega)).trans (by rw [Nat.mul_one])) (hK _ W hB rfl (fun _ _ h => h))))
      · intro L ys W hB hF hP K hK
        show OpE _ _ _ W K
        exact OpE.known (j := 2) (v := .pointer (some ⟨g_48, k, none⟩)) (hF 2 (hP.1 rfl)) (OpE.load (g := g_48) (off := k) (v := .int .i64 ((idsL l).getD k 0)) rfl (by kernel_rfl) ((hs_47.grow hB).row_blk (i := 3) ha_49 rfl) (ldV_one (by kernel_rfl) (by kernel_rfl) ((hs_47.grow hB).row_one (i := 3) ha_49 rfl (icells_get (i := k) (j := 0) (by omega) rfl))) (hK _ W hB rfl (fun _ _ h => h)))
      · intro L ys W hB hF hP K hK
        show OpE _ _ _ W K
        exact OpE.val (.pointer (some ⟨g_40, 0, none⟩)) W (by kernel_rfl) (hK _ W hB rfl (fun _ _ h => h))
      · intro L ys W hB hF hP K hK
        show OpE _ _ _ W K
        exact OpE.known (j := 4) (v := .pointer (some ⟨g_40, 0, none⟩)) (hF 4 (hP.1 rfl)) (OpE.load (g := g_40) (off := 0) (v := .int .i64 ((l.getD k mac0).1)) rfl (by kernel_rfl) ((hs_47.grow hB).pt_at (i := 4) rfl) (by kernel_rfl) (hK _ W hB rfl (fun _ _ h => h)))
      · intro L ys W hB hF hP K hK
        show OpE _ _ _ W K
        exact OpE.known (j := 3) (v := .int .i64 ((idsL l).getD k 0)) (hF 3 (hP.1 rfl)) (OpE.known (j := 5) (v := .int .i64 ((l.getD k mac0).1)) (hF 5 (hP.2.1 rfl)) (OpE.val (.bool false) W (run_eqv (by kernel_rfl) (congrArg Value.bool (show (!(((idsL l).getD k 0) == ((l.getD k mac0).1))) = false from by rw [hid_]; rfl))) (hK _ W hB rfl (fun _ _ h => h))))
      · intro L ys W hB hF hP K hK
        show OpE _ _ _ W K
        exact OpE.known (j := 6) (v := .bool false) (hF 6 (hP.1 rfl)) (OpE.val (.bool false) W (by kernel_rfl) (hK _ W hB rfl (fun _ _ h => h)))
      · intro L ys W hB hF hP K hK
        refine ⟨58, false, rfl, (show fillE _ 0 ys _ 58 = _ from (hF 7 (hP.1 rfl))), .inl ⟨rfl, ?_⟩⟩
        exact OpE.val (.bool true) W (by kernel_rfl) (hK _ W hB rfl (fun _ _ h => h))
      · intro L ys W hB hF hP K hK
        refine ⟨58, false, rfl, (show fillE _ 0 ys _ 58 = _ from (hF 7 (hP.2.1 rfl))), .inl ⟨rfl, ?_⟩⟩
        exact OpE.known (j := 8) (v := .bool true) (hF 8 (hP.1 rfl)) (OpE.val (.bool false) W (by kernel_rfl) (hK _ W hB rfl (fun _ _ h => h)))
      · intro L ys W hB hF hP K hK
        show OpE _ _ _ W K
        exact OpE.known (j := 7) (v := .bool false) (hF 7 (hP.1 rfl)) (OpE.known (j := 9) (v := .bool false) (hF 9 (hP.2.1 rfl)) (OpE.val (.bool false) W (by kernel_rfl) (hK _ W hB rfl (fun _ _ h => h))))
      · intro L ys W hB hF hP K hK
        show OpE _ _ _ W K
        exact OpE.known (j := 10) (v := .bool false) (hF 10 (hP.1 rfl)) (OpE.val (.bool false) W (by kernel_rfl) (hK _ W hB rfl (fun _ _ h => h)))
      · intro L ys W hB hF hP K hK
        refine ⟨62, false, rfl, (show fillE _ 0 ys _ 62 = _ from (hF 11 (hP.1 rfl))), .inl ⟨rfl, ?_⟩⟩
        exact OpE.val (.string (bsl ((l.getD k mac0).2))) W (by kernel_rfl) (hK _ W hB rfl (fun _ _ h => h))
      · intro L ys W hB hF hP K hK
        refine ⟨62, false, rfl, (show fillE _ 0 ys _ 62 = _ from (hF 11 (hP.1 rfl))), .inl ⟨rfl, ?_⟩⟩
        exact OpE.val (.pointer (some ⟨g_40, 1, none⟩)) W (by kernel_rfl) (hK _ W hB rfl (fun _ _ h => h))
      · intro L ys W hB hF hP K hK
        refine ⟨62, false, rfl, (show fillE _ 0 ys _ 62 = _ from (hF 11 (hP.2.1 rfl))), .inl ⟨rfl, ?_⟩⟩
        exact OpE.known (j := 13) (v := .pointer (some ⟨g_40, 1, none⟩)) (hF 13 (hP.1 rfl)) (OpE.load (g := g_40) (off := 1) (v := .string (bsl ((l.getD k mac0).2))) rfl (by kernel_rfl) ((hs_47.grow hB).pt_at (i := 4) rfl) (by kernel_rfl) (hK _ W hB rfl (fun _ _ h => h)))
    · intro ys_53 w_50 hs_51 hF_52
      have hg_54 := hs_51
      have hs_51 : SH U w w_50 [pt g #[.map ob] 35, oH ob n (macD l), rowH 77 2 a (l).length ca (mcells l), rowH 3 1 a_1 (idsL l).length c_2 (icells (idsL l)), pt g_40 #[.int .i64 ((l.getD k mac0).1), .string (bsl ((l.getD k mac0).2))] 77] := hs_47.grow hg_54
      refine SL.knownY (j := 8) (v := .bool true) (show ys_53 8 = .bool true from hF_52 8 (by decide)) (SL.knownY (j := 9) (v := .bool false) (show ys_53 9 = .bool false from hF_52 9 (by decide)) (SL.knownY (j := 11) (v := .bool false) (show ys_53 11 = .bool false from hF_52 11 (by decide)) (SL.knownY (j := 12) (v := .string (bsl ((l.getD k mac0).2))) (show ys_53 12 = .string (bsl ((l.getD k mac0).2)) from hF_52 12 (by decide)) (SL.knownY (j := 13) (v := .pointer (some ⟨g_40, 1, none⟩)) (show ys_53 13 = .pointer (some ⟨g_40, 1, none⟩) from hF_52 13 (by decide)) (SL.knownY (j := 14) (v := .string (bsl ((l.getD k mac0).2))) (show ys_53 14 = .string (bsl ((l.getD k mac0).2)) from hF_52 14 (by decide)) (?_))))))
      clear hF_52 HGR
      refine SL.go ?_
      refine SL.val (v := .bool false) (w' := w_50) rfl rfl (run_strneB (a := bsl ((l.getD k mac0).2)) (b := bsl ((l.getD k mac0).2)) (c := true) rfl (by kernel_rfl) (by kernel_rfl) (seqB_self _)) ?_
      refine SL.v (.bool false) ?_
      refine SL.nil ?_
      refine CW.cond_false (by kernel_rfl) ?_
      refine CW.skip ?_
      refine CW.region ?_
      refine SL.val (v := .int .i64 ((k + 1 : Nat) : Int)) (w' := w_50) rfl rfl (by have hw : IntKind.i64.wrap (((k : Nat) : Int) + 1) = ((k + 1 : Nat) : Int) := (IntWalk.i64_in _ (by omega)).trans (by omega); exact run_eqv (by kernel_rfl) (congrArg (fun z => Value.int .i64 z) hw)) ?_
      refine SL.v (.int .i64 ((k + 1 : Nat) : Int)) ?_
      refine SL.nil ?_
      exact ⟨_, ⟨k + 1, rfl, (hs_51.pick [2, 0, 0, 0] rfl), (by omega), (by kernel_rfl), (by kernel_rfl), (by kernel_rfl), (by kernel_rfl), (by kernel_rfl), (by kernel_rfl)⟩, by omega⟩
  · try rw [hb_37]
    have hqhb_37 := of_decide_eq_false hb_37
    refine CW.cond_false (by kernel_rfl) ?_
    refine CW.exit ?_
    repeat with_reducible first | refine PThen.exit ?_ | refine PBlock.out rfl ?_
    with_reducible refine PBlock.here ?_
    repeat with_reducible refine PBlock.normal ?_
    refine CW.seq ?_
    refine CW.region ?_
    refine SL.v (.bool true) ?_
    refine SL.nil ?_
    refine CW.ret ?_
    repeat with_reducible first | refine PThen.ret ?_ | refine PBlock.ret ?_
    refine PRet.tmp (t := 4) (v := .bool true) rfl rfl (by kernel_rfl) ?_
    exact ⟨_, _, rfl, ⟨rfl, rfl⟩, hs_28.pick [1, 1, 0] rfl⟩
def datL (h : Bool) (d : List UInt8) : List UInt8 := bif h then d.take 400 else d.take 7000
/-- What an act does; none: it is refused. -/
def doR (l : List Mac) (i : Int) (c h : Bool) (d : List UInt8) : Option (List Mac) :=
  if i < -1 then some [] else if (defR l i c h (datL h d)).2 = 0 then some (defR l i c h (datL h d)).1 else none
set_option maxRecDepth 100000 in
set_option maxHeartbeats 4000000 in
theorem do_tr (g : Nat) (ob : Option Nat) (n : Nat) (l : List Mac) (a : Option Addr) (ca : Nat) (i : Int) (cl hx : Bool) (d : List UInt8) (w : World) (hk9 : MacOk l) (hwf : (Lit.int .i64 i).wf = true) (hd9 : d.length ≤ maxLen) : TrM MaxOk Try.prog 16 #[.pointer (some ⟨g, 0, none⟩), .slice a (l).length ca, .agg #[.int .i64 i, .bool cl, .bool hx, .string (bsl d)]] w [pt g #[.map ob] 35, oH ob n (macD l), rowH 77 2 a (l).length ca (mcells l)]
    (fun v Q => (doR l i cl hx d = none ∧ v = .tuple #[.slice a (l).length ca, .bool true] ∧ Q = [pt g #[.map ob] 35, oH ob n (macD l), rowH 77 2 a (l).length ca (mcells l)]) ∨ (∃ m, doR l i cl hx d = some m ∧ ∃ ob2 n2 a2 c2, v = .tuple #[.slice a2 (m).length c2, .bool true] ∧ Q = [pt g #[.map ob2] 35, oH ob2 n2 (macD m), rowH 77 2 a2 (m).length c2 (mcells m), rowH 77 2 a (l).length ca (mcells l)])) := by
  obtain ⟨X9, hX9⟩ : ∃ X9, X9 = doR l i cl hx d := ⟨_, rfl⟩
  rw [← hX9]
  refine TrM.of fun U hs0 hMU => ?_
  refine calls_sx (n := 50) (args := [.pointer (some ⟨g, 0, none⟩), .slice a ((l).length) ca, .agg #[.int .i64 i, .bool cl, .bool hx, .string (bsl d)]]) Try.func16 rfl rfl rfl ?_
  refine CW.seq ?_
  refine CW.region ?_
  refine SL.newH (mk := fun g => .pointer (some ⟨g, 0, none⟩)) (C := #[.int .i64 i, .bool cl, .bool hx, .string (bsl d)]) (T := 47) hs0 rfl rfl (by kernel_rfl) (fun g_1 w_2 hs_3 => ?_)
  have hs_3 : SH U w w_2 [pt g #[.map ob] 35, oH ob n (macD l), rowH 77 2 a (l).length ca (mcells l), pt g_1 #[.int .i64 i, .bool cl, .bool hx, .string (bsl d)] 47] := hs_3
  refine SL.v (.slice none 0 0) ?_
  refine SL.v (.bool false) ?_
  refine SL.nil ?_
  refine CW.seq ?_
  refine CW.seq ?_
  refine CW.region ?_
  refine SL.v (.pointer (some ⟨g_1, 0, none⟩)) ?_
  refine SL.load (g := g_1) (off := 0) (v := .int .i64 i) rfl rfl rfl (by kernel_rfl) (hs_3.pt_at (i := 3) rfl) (by kernel_rfl) ?_
  refine SL.v (.bool (decide (i < (-1)))) ?_
  refine SL.nil ?_
  rcases Bool.eq_false_or_eq_true (decide (i < (-1))) with hb_4 | hb_4
  · try rw [hb_4]
    have hqhb_4 := of_decide_eq_true hb_4
    refine CW.cond_true (by kernel_rfl) ?_
    refine CW.seq ?_
    refine CW.region ?_
    refine SL.v (.pointer (some ⟨g, 0, none⟩)) ?_
    refine SL.callH (f := 34) (args := #[.pointer (some ⟨g, 0, none⟩)]) (Pre := [pt g #[.map ob] 35]) (Rest := [oH ob n (macD l), rowH 77 2 a (l).length ca (mcells l), pt g_1 #[.int .i64 i, .bool cl, .bool hx, .string (bsl d)] 47]) [0] hs_3 rfl rfl (by kernel_rfl) rfl (clear_any g (.map ob) w_2) ?_
    rintro v_ Q_ w_5 ⟨rfl, rfl⟩ hs_7
    have hs_7 : SH U w w_5 [pt g #[.map none] 35, oH ob n (macD l), rowH 77 2 a (l).length ca (mcells l), pt g_1 #[.int .i64 i, .bool cl, .bool hx, .string (bsl d)] 47] := hs_7
    refine SL.nil ?_
    refine CW.seq ?_
    refine CW.region ?_
    refine SL.v (.slice none 0 0) ?_
    refine SL.v (.bool true) ?_
    refine SL.nil ?_
    refine CW.ret ?_
    repeat with_reducible first | refine PThen.ret ?_ | refine PBlock.ret ?_
    refine PRet.tmp2 (t := 6) (u := 7) (v := .slice none 0 0) (v' := .bool true) rfl rfl rfl (by kernel_rfl) (by kernel_rfl) ?_
    have hd_ : doR l i cl hx d = some [] := by unfold doR; rw [if_pos (by omega)]
    have hs_8 := ((hs_7.pick [0, 1] rfl).addPure (p := macD [] = (DataW.map [] : DataW Unit) ∧ 0 = 0) ⟨rfl, rfl⟩).row0 77 2
    exact ⟨_, _, rfl, .inr ⟨[], hX9.trans hd_, none, 0, none, 0, rfl, rfl⟩, hs_8.pick [0, 1, 1, 0] rfl⟩
  · try rw [hb_4]
    have hqhb_4 := of_decide_eq_false hb_4
    refine CW.cond_false (by kernel_rfl) ?_
    refine CW.skip ?_
    refine CW.seq ?_
    refine CW.region ?_
    refine SL.v (.pointer (some ⟨g_1, 3, none⟩)) ?_
    refine SL.load (g := g_1) (off := 3) (v := .string (bsl d)) rfl rfl rfl (by kernel_rfl) (hs_3.pt_at (i := 3) rfl) (by kernel_rfl) ?_
    refine SL.call (f := 8) (args := #[.string (bsl d), .int .i64 7000]) (w1 := w_2) rfl rfl (by kernel_rfl) (short_n d 7000 w_2 (by decide) hd9) ?_
    rintro x w_10 ⟨rfl, hc_11⟩
    refine ⟨.string (bsl (d.take 7000)), rfl, ?_⟩
    have hs_12 := hs_3.grow hc_11
    refine SL.v (.string (bsl (d.take 7000))) ?_
    refine SL.nil ?_
    refine CW.seq ?_
    refine CW.seq ?_
    refine CW.region ?_
    refine SL.v (.pointer (some ⟨g_1, 2, none⟩)) ?_
    refine SL.load (g := g_1) (off := 2) (v := .bool hx) rfl rfl rfl (by kernel_rfl) (hs_12.pt_at (i := 3) rfl) (by kernel_rfl) ?_
    refine SL.nil ?_
    rcases Bool.eq_false_or_eq_true (hx) with hb_13 | hb_13
    · try rw [hb_13]
      rw [hb_13] at hs_12
      refine CW.cond_true (by kernel_rfl) ?_
      refine CW.region ?_
      refine SL.v (.pointer (some ⟨g_1, 3, none⟩)) ?_
      refine SL.load (g := g_1) (off := 3) (v := .string (bsl d)) rfl rfl rfl (by kernel_rfl) (hs_12.pt_at (i := 3) rfl) (by kernel_rfl) ?_
      refine SL.call (f := 8) (args := #[.string (bsl d), .int .i64 400]) (w1 := w_10) rfl rfl (by kernel_rfl) (short_n d 400 w_10 (by decide) hd9) ?_
      rintro x w_14 ⟨rfl, hc_15⟩
      refine ⟨.string (bsl (d.take 400)), rfl, ?_⟩
      have hs_16 := hs_12.grow hc_15
      refine SL.v (.string (bsl (d.take 400))) ?_
      refine SL.nil ?_
      refine CW.seq ?_
      rcases Bool.eq_false_or_eq_true ((defR l i cl true (d.take 400)).2 == 0) with hb_17 | hb_17
      · try rw [hb_17]
        refine CW.region ?_
        refine SL.v (.pointer (some ⟨g, 0, none⟩)) ?_
        refine SL.v (.pointer (some ⟨g_1, 0, none⟩)) ?_
        refine SL.load (g := g_1) (off := 0) (v := .int .i64 i) rfl rfl rfl (by kernel_rfl) (hs_16.pt_at (i := 3) rfl) (by kernel_rfl) ?_
        refine SL.v (.pointer (some ⟨g_1, 1, none⟩)) ?_
        refine SL.load (g := g_1) (off := 1) (v := .bool cl) rfl rfl rfl (by kernel_rfl) (hs_16.pt_at (i := 3) rfl) (by kernel_rfl) ?_
        refine SL.v (.pointer (some ⟨g_1, 2, none⟩)) ?_
        refine SL.load (g := g_1) (off := 2) (v := .bool true) rfl rfl rfl (by kernel_rfl) (hs_16.pt_at (i := 3) rfl) (by kernel_rfl) ?_
        refine SL.v (.string (bsl (d.take 400))) ?_
        refine SL.callHM (hI := hMU) (f := 12) (args := #[.pointer (some ⟨g, 0, none⟩), .int .i64 i, .bool cl, .bool true, .string (bsl (d.take 400))]) (Pre := [pt g #[.map ob] 35, oH ob n (macD l)]) (Rest := [rowH 77 2 a (l).length ca (mcells l), pt g_1 #[.int .i64 i, .bool cl, .bool true, .string (bsl d)] 47]) [0, 0] hs_16 rfl rfl (by kernel_rfl) rfl ((pdef_tr g ob n l i cl true (d.take 400) w_14 hwf hk9 (by rw [List.length_take]; omega)).mono (fun v Q h => h.resolve_left (fun h_ => h_.1 (eq_of_beq hb_17)))) ?_
        rintro v_ Q_ w_22 ⟨_, rfl, mm_18, b_19, c_20, hm_21, rfl⟩ hs_24
        have hs_24 : SH U w w_22 [pt g #[.map (some b_19)] 35, oH (some b_19) c_20 (macD mm_18), rowH 77 2 a (l).length ca (mcells l), pt g_1 #[.int .i64 i, .bool cl, .bool true, .string (bsl d)] 47] := hs_24
        refine SL.v (.int .i64 0) ?_
        refine SL.nil ?_
        refine CW.seq ?_
        refine CW.region ?_
        refine SL.v (.slice a ((l).length) ca) ?_
        refine SL.v (.pointer (some ⟨g_1, 0, none⟩)) ?_
        refine SL.load (g := g_1) (off := 0) (v := .int .i64 i) rfl rfl rfl (by kernel_rfl) (hs_24.pt_at (i := 3) rfl) (by kernel_rfl) ?_
        refine SL.v (.pointer (some ⟨g_1, 1, none⟩)) ?_
        refine SL.load (g := g_1) (off := 1) (v := .bool cl) rfl rfl rfl (by kernel_rfl) (hs_24.pt_at (i := 3) rfl) (by kernel_rfl) ?_
        refine SL.v (.pointer (some ⟨g_1, 2, none⟩)) ?_
        refine SL.load (g := g_1) (off := 2) (v := .bool true) rfl rfl rfl (by kernel_rfl) (hs_24.pt_at (i := 3) rfl) (by kernel_rfl) ?_
        refine SL.v (.string (bsl (d.take 400))) ?_
        refine SL.callH (f := 35) (args := #[.slice a ((l).length) ca, .int .i64 i, .bool cl, .bool true, .string (bsl (d.take 400))]) (Pre := [rowH 77 2 a (l).length ca (mcells l)]) (Rest := [pt g #[.map (some b_19)] 35, oH (some b_19) c_20 (macD mm_18), pt g_1 #[.int .i64 i, .bool cl, .bool true, .string (bsl d)] 47]) [2] hs_24 rfl rfl (by kernel_rfl) rfl ((rdef_tr a ca l i cl true (d.take 400) w_22 hk9 (by rw [List.length_take]; omega)).mono (fun v Q h => h.resolve_left (fun h_ => h_.1 (eq_of_beq hb_17)))) ?_
        rintro v_ Q_ w_29 ⟨_, mm_25, a_26, c_27, hm_28, rfl, rfl⟩ hs_31
        have hs_31 : SH U w w_29 [rowH 77 2 a_26 (mm_25).length c_27 (mcells mm_25), rowH 77 2 a (l).length ca (mcells l), pt g #[.map (some b_19)] 35, oH (some b_19) c_20 (macD mm_18), pt g_1 #[.int .i64 i, .bool cl, .bool true, .string (bsl d)] 47] := hs_31
        refine SL.v (.tuple #[.slice a_26 ((mm_25).length) c_27, .int .i64 0]) ?_
        refine SL.v (.slice a_26 ((mm_25).length) c_27) ?_
        refine SL.v (.int .i64 0) ?_
        refine SL.v (.slice a_26 ((mm_25).length) c_27) ?_
        refine SL.v (.int .i64 0) ?_
        refine SL.nil ?_
        refine CW.seq ?_
        refine CW.region ?_
        refine SL.v (.slice a_26 ((mm_25).length) c_27) ?_
        refine SL.v (.int .i64 0) ?_
        refine SL.v (.int .i64 0) ?_
        refine SL.v (.bool true) ?_
        refine SL.v (.slice a_26 ((mm_25).length) c_27) ?_
        refine SL.v (.bool true) ?_
        refine SL.nil ?_
        refine CW.ret ?_
        repeat with_reducible first | refine PThen.ret ?_ | refine PBlock.ret ?_
        refine PRet.tmp2 (t := 6) (u := 7) (v := .slice a_26 ((mm_25).length) c_27) (v' := .bool true) rfl rfl rfl (by kernel_rfl) (by kernel_rfl) ?_
        have hq9 : defR l i cl hx (datL hx d) = defR l i cl true (d.take 400) := by rw [hb_13]; rfl
        have he9 : mm_18 = mm_25 := hm_21.trans hm_28.symm
        have hd_ : doR l i cl hx d = some mm_25 := by unfold doR; rw [if_neg (by omega), hq9, if_pos (eq_of_beq hb_17), hm_28]
        subst he9
        exact ⟨_, _, rfl, .inr ⟨_, hX9.trans hd_, _, _, _, _, rfl, rfl⟩, hs_31.pick [2, 2, 0, 0] rfl⟩
      · try rw [hb_17]
        refine CW.region ?_
        refine SL.v (.pointer (some ⟨g, 0, none⟩)) ?_
        refine SL.v (.pointer (some ⟨g_1, 0, none⟩)) ?_
        refine SL.load (g := g_1) (off := 0) (v := .int .i64 i) rfl rfl rfl (by kernel_rfl) (hs_16.pt_at (i := 3) rfl) (by kernel_rfl) ?_
        refine SL.v (.pointer (some ⟨g_1, 1, none⟩)) ?_
        refine SL.load (g := g_1) (off := 1) (v := .bool cl) rfl rfl rfl (by kernel_rfl) (hs_16.pt_at (i := 3) rfl) (by kernel_rfl) ?_
        refine SL.v (.pointer (some ⟨g_1, 2, none⟩)) ?_
        refine SL.load (g := g_1) (off := 2) (v := .bool true) rfl rfl rfl (by kernel_rfl) (hs_16.pt_at (i := 3) rfl) (by kernel_rfl) ?_
        refine SL.v (.string (bsl (d.take 400))) ?_
        refine SL.callHM (hI := hMU) (f := 12) (args := #[.pointer (some ⟨g, 0, none⟩), .int .i64 i, .bool cl, .bool true, .string (bsl (d.take 400))]) (Pre := [pt g #[.map ob] 35, oH ob n (macD l)]) (Rest := [rowH 77 2 a (l).length ca (mcells l), pt g_1 #[.int .i64 i, .bool cl, .bool true, .string (bsl d)] 47]) [0, 0] hs_16 rfl rfl (by kernel_rfl) rfl ((pdef_tr g ob n l i cl true (d.take 400) w_14 hwf hk9 (by rw [List.length_take]; omega)).mono (fun v Q h => h.resolve_right (fun h_ => absurd (beq_iff_eq.2 h_.1) (by rw [hb_17]; simp)))) ?_
        rintro v_ Q_ w_32 ⟨_, rfl, rfl⟩ hs_34
        have hs_34 : SH U w w_32 [pt g #[.map ob] 35, oH ob n (macD l), rowH 77 2 a (l).length ca (mcells l), pt g_1 #[.int .i64 i, .bool cl, .bool true, .string (bsl d)] 47] := hs_34
        refine SL.v (.int .i64 ((defR l i cl true (d.take 400)).2)) ?_
        refine SL.nil ?_
        refine CW.seq ?_
        refine CW.region ?_
        refine SL.v (.slice a ((l).length) ca) ?_
        refine SL.v (.pointer (some ⟨g_1, 0, none⟩)) ?_
        refine SL.load (g := g_1) (off := 0) (v := .int .i64 i) rfl rfl rfl (by kernel_rfl) (hs_34.pt_at (i := 3) rfl) (by kernel_rfl) ?_
        refine SL.v (.pointer (some ⟨g_1, 1, none⟩)) ?_
        refine SL.load (g := g_1) (off := 1) (v := .bool cl) rfl rfl rfl (by kernel_rfl) (hs_34.pt_at (i := 3) rfl) (by kernel_rfl) ?_
        refine SL.v (.pointer (some ⟨g_1, 2, none⟩)) ?_
        refine SL.load (g := g_1) (off := 2) (v := .bool true) rfl rfl rfl (by kernel_rfl) (hs_34.pt_at (i := 3) rfl) (by kernel_rfl) ?_
        refine SL.v (.string (bsl (d.take 400))) ?_
        refine SL.callH (f := 35) (args := #[.slice a ((l).length) ca, .int .i64 i, .bool cl, .bool true, .string (bsl (d.take 400))]) (Pre := [rowH 77 2 a (l).length ca (mcells l)]) (Rest := [pt g #[.map ob] 35, oH ob n (macD l), pt g_1 #[.int .i64 i, .bool cl, .bool true, .string (bsl d)] 47]) [2] hs_34 rfl rfl (by kernel_rfl) rfl ((rdef_tr a ca l i cl true (d.take 400) w_32 hk9 (by rw [List.length_take]; omega)).mono (fun v Q h => h.resolve_right (fun h_ => absurd (beq_iff_eq.2 h_.1) (by rw [hb_17]; simp)))) ?_
        rintro v_ Q_ w_35 ⟨_, rfl, rfl⟩ hs_37
        have hs_37 : SH U w w_35 [rowH 77 2 a (l).length ca (mcells l), pt g #[.map ob] 35, oH ob n (macD l), pt g_1 #[.int .i64 i, .bool cl, .bool true, .string (bsl d)] 47] := hs_37
        refine SL.v (.tuple #[.slice a ((l).length) ca, .int .i64 ((defR l i cl true (d.take 400)).2)]) ?_
        refine SL.v (.slice a ((l).length) ca) ?_
        refine SL.v (.int .i64 ((defR l i cl true (d.take 400)).2)) ?_
        refine SL.v (.slice a ((l).length) ca) ?_
        refine SL.v (.int .i64 ((defR l i cl true (d.take 400)).2)) ?_
        refine SL.nil ?_
        refine CW.seq ?_
        refine CW.region ?_
        refine SL.v (.slice a ((l).length) ca) ?_
        refine SL.v (.int .i64 ((defR l i cl true (d.take 400)).2)) ?_
        refine SL.v (.int .i64 ((defR l i cl true (d.take 400)).2)) ?_
        refine SL.val (v := .bool true) (w' := w_35) rfl rfl (run_eqv (by kernel_rfl) (congrArg Value.bool (show (((defR l i cl true (d.take 400)).2) == ((defR l i cl true (d.take 400)).2)) = (true) from (beq_self_eq_true _)))) ?_
        refine SL.v (.slice a ((l).length) ca) ?_
        refine SL.v (.bool true) ?_
        refine SL.nil ?_
        refine CW.ret ?_
        repeat with_reducible first | refine PThen.ret ?_ | refine PBlock.ret ?_
        refine PRet.tmp2 (t := 6) (u := 7) (v := .slice a ((l).length) ca) (v' := .bool true) rfl rfl rfl (by kernel_rfl) (by kernel_rfl) ?_
        have hq9 : defR l i cl hx (datL hx d) = defR l i cl true (d.take 400) := by rw [hb_13]; rfl
        have hd_ : doR l i cl hx d = none := by unfold doR; rw [if_neg (by omega), hq9, if_neg (fun h_ => absurd (beq_iff_eq.2 h_) (by rw [hb_17]; simp))]
        exact ⟨_, _, rfl, .inl ⟨hX9.trans hd_, rfl, rfl⟩, hs_37.pick [1, 1, 0] rfl⟩
    · try rw [hb_13]
      rw [hb_13] at hs_12
      refine CW.cond_false (by kernel_rfl) ?_
      refine CW.skip ?_
      refine CW.seq ?_
      rcases Bool.eq_false_or_eq_true ((defR l i cl false (d.take 7000)).2 == 0) with hb_38 | hb_38
      · try rw [hb_38]
        refine CW.region ?_
        refine SL.v (.pointer (some ⟨g, 0, none⟩)) ?_
        refine SL.v (.pointer (some ⟨g_1, 0, none⟩)) ?_
        refine SL.load (g := g_1) (off := 0) (v := .int .i64 i) rfl rfl rfl (by kernel_rfl) (hs_12.pt_at (i := 3) rfl) (by kernel_rfl) ?_
        refine SL.v (.pointer (some ⟨g_1, 1, none⟩)) ?_
        refine SL.load (g := g_1) (off := 1) (v := .bool cl) rfl rfl rfl (by kernel_rfl) (hs_12.pt_at (i := 3) rfl) (by kernel_rfl) ?_
        refine SL.v (.pointer (some ⟨g_1, 2, none⟩)) ?_
        refine SL.load (g := g_1) (off := 2) (v := .bool false) rfl rfl rfl (by kernel_rfl) (hs_12.pt_at (i := 3) rfl) (by kernel_rfl) ?_
        refine SL.v (.string (bsl (d.take 7000))) ?_
        refine SL.callHM (hI := hMU) (f := 12) (args := #[.pointer (some ⟨g, 0, none⟩), .int .i64 i, .bool cl, .bool false, .string (bsl (d.take 7000))]) (Pre := [pt g #[.map ob] 35, oH ob n (macD l)]) (Rest := [rowH 77 2 a (l).length ca (mcells l), pt g_1 #[.int .i64 i, .bool cl, .bool false, .string (bsl d)] 47]) [0, 0] hs_12 rfl rfl (by kernel_rfl) rfl ((pdef_tr g ob n l i cl false (d.take 7000) w_10 hwf hk9 (by rw [List.length_take]; omega)).mono (fun v Q h => h.resolve_left (fun h_ => h_.1 (eq_of_beq hb_38)))) ?_
        rintro v_ Q_ w_43 ⟨_, rfl, mm_39, b_40, c_41, hm_42, rfl⟩ hs_45
        have hs_45 : SH U w w_43 [pt g #[.map (some b_40)] 35, oH (some b_40) c_41 (macD mm_39), rowH 77 2 a (l).length ca (mcells l), pt g_1 #[.int .i64 i, .bool cl, .bool false, .string (bsl d)] 47] := hs_45
        refine SL.v (.int .i64 0) ?_
        refine SL.nil ?_
        refine CW.seq ?_
        refine CW.region ?_
        refine SL.v (.slice a ((l).length) ca) ?_
        refine SL.v (.pointer (some ⟨g_1, 0, none⟩)) ?_
        refine SL.load (g := g_1) (off := 0) (v := .int .i64 i) rfl rfl rfl (by kernel_rfl) (hs_45.pt_at (i := 3) rfl) (by kernel_rfl) ?_
        refine SL.v (.pointer (some ⟨g_1, 1, none⟩)) ?_
        refine SL.load (g := g_1) (off := 1) (v := .bool cl) rfl rfl rfl (by kernel_rfl) (hs_45.pt_at (i := 3) rfl) (by kernel_rfl) ?_
        refine SL.v (.pointer (some ⟨g_1, 2, none⟩)) ?_
        refine SL.load (g := g_1) (off := 2) (v := .bool false) rfl rfl rfl (by kernel_rfl) (hs_45.pt_at (i := 3) rfl) (by kernel_rfl) ?_
        refine SL.v (.string (bsl (d.take 7000))) ?_
        refine SL.callH (f := 35) (args := #[.slice a ((l).length) ca, .int .i64 i, .bool cl, .bool false, .string (bsl (d.take 7000))]) (Pre := [rowH 77 2 a (l).length ca (mcells l)]) (Rest := [pt g #[.map (some b_40)] 35, oH (some b_40) c_41 (macD mm_39), pt g_1 #[.int .i64 i, .bool cl, .bool false, .string (bsl d)] 47]) [2] hs_45 rfl rfl (by kernel_rfl) rfl ((rdef_tr a ca l i cl false (d.take 7000) w_43 hk9 (by rw [List.length_take]; omega)).mono (fun v Q h => h.resolve_left (fun h_ => h_.1 (eq_of_beq hb_38)))) ?_
        rintro v_ Q_ w_50 ⟨_, mm_46, a_47, c_48, hm_49, rfl, rfl⟩ hs_52
        have hs_52 : SH U w w_50 [rowH 77 2 a_47 (mm_46).length c_48 (mcells mm_46), rowH 77 2 a (l).length ca (mcells l), pt g #[.map (some b_40)] 35, oH (some b_40) c_41 (macD mm_39), pt g_1 #[.int .i64 i, .bool cl, .bool false, .string (bsl d)] 47] := hs_52
        refine SL.v (.tuple #[.slice a_47 ((mm_46).length) c_48, .int .i64 0]) ?_
        refine SL.v (.slice a_47 ((mm_46).length) c_48) ?_
        refine SL.v (.int .i64 0) ?_
        refine SL.v (.slice a_47 ((mm_46).length) c_48) ?_
        refine SL.v (.int .i64 0) ?_
        refine SL.nil ?_
        refine CW.seq ?_
        refine CW.region ?_
        refine SL.v (.slice a_47 ((mm_46).length) c_48) ?_
        refine SL.v (.int .i64 0) ?_
        refine SL.v (.int .i64 0) ?_
        refine SL.v (.bool true) ?_
        refine SL.v (.slice a_47 ((mm_46).length) c_48) ?_
        refine SL.v (.bool true) ?_
        refine SL.nil ?_
        refine CW.ret ?_
        repeat with_reducible first | refine PThen.ret ?_ | refine PBlock.ret ?_
        refine PRet.tmp2 (t := 6) (u := 7) (v := .slice a_47 ((mm_46).length) c_48) (v' := .bool true) rfl rfl rfl (by kernel_rfl) (by kernel_rfl) ?_
        have hq9 : defR l i cl hx (datL hx d) = defR l i cl false (d.take 7000) := by rw [hb_13]; rfl
        have he9 : mm_39 = mm_46 := hm_42.trans hm_49.symm
        have hd_ : doR l i cl hx d = some mm_46 := by unfold doR; rw [if_neg (by omega), hq9, if_pos (eq_of_beq hb_38), hm_49]
        subst he9
        exact ⟨_, _, rfl, .inr ⟨_, hX9.trans hd_, _, _, _, _, rfl, rfl⟩, hs_52.pick [2, 2, 0, 0] rfl⟩
      · try rw [hb_38]
        refine CW.region ?_
        refine SL.v (.pointer (some ⟨g, 0, none⟩)) ?_
        refine SL.v (.pointer (some ⟨g_1, 0, none⟩)) ?_
        refine SL.load (g := g_1) (off := 0) (v := .int .i64 i) rfl rfl rfl (by kernel_rfl) (hs_12.pt_at (i := 3) rfl) (by kernel_rfl) ?_
        refine SL.v (.pointer (some ⟨g_1, 1, none⟩)) ?_
        refine SL.load (g := g_1) (off := 1) (v := .bool cl) rfl rfl rfl (by kernel_rfl) (hs_12.pt_at (i := 3) rfl) (by kernel_rfl) ?_
        refine SL.v (.pointer (some ⟨g_1, 2, none⟩)) ?_
        refine SL.load (g := g_1) (off := 2) (v := .bool false) rfl rfl rfl (by kernel_rfl) (hs_12.pt_at (i := 3) rfl) (by kernel_rfl) ?_
        refine SL.v (.string (bsl (d.take 7000))) ?_
        refine SL.callHM (hI := hMU) (f := 12) (args := #[.pointer (some ⟨g, 0, none⟩), .int .i64 i, .bool cl, .bool false, .string (bsl (d.take 7000))]) (Pre := [pt g #[.map ob] 35, oH ob n (macD l)]) (Rest := [rowH 77 2 a (l).length ca (mcells l), pt g_1 #[.int .i64 i, .bool cl, .bool false, .string (bsl d)] 47]) [0, 0] hs_12 rfl rfl (by kernel_rfl) rfl ((pdef_tr g ob n l i cl false (d.take 7000) w_10 hwf hk9 (by rw [List.length_take]; omega)).mono (fun v Q h => h.resolve_right (fun h_ => absurd (beq_iff_eq.2 h_.1) (by rw [hb_38]; simp)))) ?_
        rintro v_ Q_ w_53 ⟨_, rfl, rfl⟩ hs_55
        have hs_55 : SH U w w_53 [pt g #[.map ob] 35, oH ob n (macD l), rowH 77 2 a (l).length ca (mcells l), pt g_1 #[.int .i64 i, .bool cl, .bool false, .string (bsl d)] 47] := hs_55
        refine SL.v (.int .i64 ((defR l i cl false (d.take 7000)).2)) ?_
        refine SL.nil ?_
        refine CW.seq ?_
        refine CW.region ?_
        refine SL.v (.slice a ((l).length) ca) ?_
        refine SL.v (.pointer (some ⟨g_1, 0, none⟩)) ?_
        refine SL.load (g := g_1) (off := 0) (v := .int .i64 i) rfl rfl rfl (by kernel_rfl) (hs_55.pt_at (i := 3) rfl) (by kernel_rfl) ?_
        refine SL.v (.pointer (some ⟨g_1, 1, none⟩)) ?_
        refine SL.load (g := g_1) (off := 1) (v := .bool cl) rfl rfl rfl (by kernel_rfl) (hs_55.pt_at (i := 3) rfl) (by kernel_rfl) ?_
        refine SL.v (.pointer (some ⟨g_1, 2, none⟩)) ?_
        refine SL.load (g := g_1) (off := 2) (v := .bool false) rfl rfl rfl (by kernel_rfl) (hs_55.pt_at (i := 3) rfl) (by kernel_rfl) ?_
        refine SL.v (.string (bsl (d.take 7000))) ?_
        refine SL.callH (f := 35) (args := #[.slice a ((l).length) ca, .int .i64 i, .bool cl, .bool false, .string (bsl (d.take 7000))]) (Pre := [rowH 77 2 a (l).length ca (mcells l)]) (Rest := [pt g #[.map ob] 35, oH ob n (macD l), pt g_1 #[.int .i64 i, .bool cl, .bool false, .string (bsl d)] 47]) [2] hs_55 rfl rfl (by kernel_rfl) rfl ((rdef_tr a ca l i cl false (d.take 7000) w_53 hk9 (by rw [List.length_take]; omega)).mono (fun v Q h => h.resolve_right (fun h_ => absurd (beq_iff_eq.2 h_.1) (by rw [hb_38]; simp)))) ?_
        rintro v_ Q_ w_56 ⟨_, rfl, rfl⟩ hs_58
        have hs_58 : SH U w w_56 [rowH 77 2 a (l).length ca (mcells l), pt g #[.map ob] 35, oH ob n (macD l), pt g_1 #[.int .i64 i, .bool cl, .bool false, .string (bsl d)] 47] := hs_58
        refine SL.v (.tuple #[.slice a ((l).length) ca, .int .i64 ((defR l i cl false (d.take 7000)).2)]) ?_
        refine SL.v (.slice a ((l).length) ca) ?_
        refine SL.v (.int .i64 ((defR l i cl false (d.take 7000)).2)) ?_
        refine SL.v (.slice a ((l).length) ca) ?_
        refine SL.v (.int .i64 ((defR l i cl false (d.take 7000)).2)) ?_
        refine SL.nil ?_
        refine CW.seq ?_
        refine CW.region ?_
        refine SL.v (.slice a ((l).length) ca) ?_
        refine SL.v (.int .i64 ((defR l i cl false (d.take 7000)).2)) ?_
        refine SL.v (.int .i64 ((defR l i cl false (d.take 7000)).2)) ?_
        refine SL.val (v := .bool true) (w' := w_56) rfl rfl (run_eqv (by kernel_rfl) (congrArg Value.bool (show (((defR l i cl false (d.take 7000)).2) == ((defR l i cl false (d.take 7000)).2)) = (true) from (beq_self_eq_true _)))) ?_
        refine SL.v (.slice a ((l).length) ca) ?_
        refine SL.v (.bool true) ?_
        refine SL.nil ?_
        refine CW.ret ?_
        repeat with_reducible first | refine PThen.ret ?_ | refine PBlock.ret ?_
        refine PRet.tmp2 (t := 6) (u := 7) (v := .slice a ((l).length) ca) (v' := .bool true) rfl rfl rfl (by kernel_rfl) (by kernel_rfl) ?_
        have hq9 : defR l i cl hx (datL hx d) = defR l i cl false (d.take 7000) := by rw [hb_13]; rfl
        have hd_ : doR l i cl hx d = none := by unfold doR; rw [if_neg (by omega), hq9, if_neg (fun h_ => absurd (beq_iff_eq.2 h_) (by rw [hb_38]; simp))]
        exact ⟨_, _, rfl, .inl ⟨hX9.trans hd_, rfl, rfl⟩, hs_58.pick [1, 1, 0] rfl⟩
end Go.Proofs.Ytaeppimldbknhaa
