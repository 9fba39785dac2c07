/-
  The law MergeRises, walked (gen_mgp.py).
-/
import Derived.Test.YtaelmkkobjdgbaaZMgO
namespace Go.Proofs.Ytaelmkkobjdgbaa
set_option linter.unusedSimpArgs false
set_option linter.unusedVariables false
open Go.RowKit
set_option linter.unusedVariables false

theorem ItIn.gr {w w' : World} {x : Itm} (h : ItIn w x) (hg : Gr w w') : ItIn w' x := ⟨h.data.gr hg, h.cap, h.caps, h.byte, h.k1⟩
theorem NestIn.gr {w w' : World} {a : Option Addr} {Ls : List LE} (h : NestIn w a Ls) (hg : Gr w w') : NestIn w' a Ls := ⟨h.out.gr hg, h.lf.gr hg, fun e he x hx => (h.items e he x hx).gr hg, h.len, h.lens⟩
set_option maxRecDepth 100000 in
set_option maxHeartbeats 8000000 in
theorem rises_law (sa : Option Addr) (sc : Nat) (L0 : List LE) (w : World) (hN : NestIn w sa L0) : Calls Try.prog 3 #[.slice sa L0.length sc] w fun e w' => e = .returned (.bool true) ∧ Gr w w' := by
  refine calls_sx (n := 120) (args := [.slice sa L0.length sc]) Try.func3 rfl rfl rfl ?_
  have hs0 := SH.none w
  refine CW.seq ?_
  refine CW.region ?_
  refine SL.v (.bool false) ?_
  refine SL.nil ?_
  refine CW.seq ?_
  refine CW.seq ?_
  refine CW.region ?_
  refine SL.call (f := 5) (args := #[]) (w1 := w) rfl rfl (by kernel_rfl) (awake26 w) ?_
  rintro x w_1 ⟨rfl, hc_2⟩
  refine ⟨.bool true, rfl, ?_⟩
  have hs_3 := hs0.grow hc_2
  refine SL.v (.bool false) ?_
  refine SL.nil ?_
  refine CW.cond_false (by kernel_rfl) ?_
  refine CW.skip ?_
  refine CW.seq ?_
  refine CW.region ?_
  refine SL.v (.slice sa L0.length sc) ?_
  refine SL.call (f := 6) (args := #[.slice sa L0.length sc]) (w1 := w_1) rfl rfl (by kernel_rfl) (few_fact sa sc L0 w_1 (hN.gr hs_3.gr)) ?_
  rintro x w_4 ⟨Ls, aF, cF, rfl, hspF, hOut, hLF, hc_5⟩
  refine ⟨_, rfl, ?_⟩
  have hs_6 := hs_3.grow hc_5
  have hG_7 := hs_6.gr
  have hs_8 := SH.none w_4
  obtain ⟨hF8, hF12⟩ := few_bounds hspF
  refine SL.v (.slice aF ((Ls).length) cF) ?_
  refine SL.nil ?_
  refine CW.seq ?_
  refine CW.seq ?_
  refine CW.region ?_
  refine SL.v (.slice aF ((Ls).length) cF) ?_
  refine SL.val (v := .int .i64 (((Ls).length : Nat) : Int)) (w' := w_4) rfl rfl (by kernel_rfl) ?_
  refine SL.v (.int .i64 0) ?_
  refine SL.nil ?_
  refine CW.block ?_
  refine CW.loopI (fun m_ e9 w9 => ∃ (k : Nat), m_ = Ls.length - k ∧ SH [] w_4 w9 [] ∧ (k ≤ Ls.length) ∧ (∀ z, z < k → riseX (Ls.getD z le0).xs) ∧ e9 0 = .slice aF ((Ls).length) cF ∧ e9 2 = .bool false ∧ e9 14 = .int .i64 (((Ls).length : Nat) : Int) ∧ e9 15 = .int .i64 ((k : Nat) : Int)) ⟨_, 0, rfl, hs_8, (Nat.zero_le _), (fun z hz => absurd hz (Nat.not_lt_zero z)), (by kernel_rfl), (by kernel_rfl), (by kernel_rfl), (by kernel_rfl)⟩ ?_
  rintro m_9 e_10 w_11 ⟨k, hm_13, hs_12, hk, hrs, hv_14, hv_15, hv_16, hv_17⟩
  obtain ⟨e_18, rfl⟩ : ∃ e_18, e_10 = put1 (put1 (put1 (put1 e_18 0 (.slice aF ((Ls).length) cF)) 2 (.bool false)) 14 (.int .i64 (((Ls).length : Nat) : Int))) 15 (.int .i64 ((k : Nat) : Int)) := ⟨e_10, (put_self hv_17).trans (congrArg (fun z => put1 z 15 (.int .i64 ((k : Nat) : Int))) ((put_self hv_16).trans (congrArg (fun z => put1 z 14 (.int .i64 (((Ls).length : Nat) : Int))) ((put_self hv_15).trans (congrArg (fun z => put1 z 2 (.bool false)) (put_self hv_14))))))⟩
  clear hv_14 hv_15 hv_16 hv_17
  obtain ⟨E, hE⟩ : ∃ E, E = Ls.getD k le0 := ⟨_, rfl⟩
  refine CW.seq ?_
  refine CW.region ?_
  refine SL.v (.bool (decide (((k : Nat) : Int) < (((Ls).length : Nat) : Int)))) ?_
  refine SL.nil ?_
  refine CW.seq ?_
  rcases Bool.eq_false_or_eq_true (decide (((k : Nat) : Int) < (((Ls).length : Nat) : Int))) with hb_19 | hb_19
  · try rw [hb_19]
    have hqhb_19 := of_decide_eq_true hb_19
    refine CW.cond_true (by kernel_rfl) ?_
    refine CW.skip ?_
    refine CW.seq ?_
    refine CW.block ?_
    refine CW.seq ?_
    refine CW.region ?_
    refine SL.v (.int .i64 ((k : Nat) : Int)) ?_
    refine SL.v (.int .i64 ((k : Nat) : Int)) ?_
    refine SL.nil ?_
    refine CW.seq ?_
    refine CW.region ?_
    refine SL.v (.int .i64 1) ?_
    refine SL.nil ?_
    refine CW.block ?_
    refine CW.loopI (fun m_ e9 w9 => ∃ (j : Nat), m_ = 20 - j ∧ SH [] w_4 w9 [] ∧ (1 ≤ j) ∧ (j ≤ 20) ∧ (∀ z, 1 ≤ z → z < j → z < E.xs.length → (E.xs.getD (z - 1) itm0).at_ ≤ (E.xs.getD z itm0).at_) ∧ e9 0 = .slice aF ((Ls).length) cF ∧ e9 2 = .bool false ∧ e9 3 = .int .i64 ((k : Nat) : Int) ∧ e9 4 = .int .i64 ((j : Nat) : Int) ∧ e9 14 = .int .i64 (((Ls).length : Nat) : Int) ∧ e9 15 = .int .i64 ((k : Nat) : Int) ∧ e9 16 = .bool true) ⟨_, 1, rfl, hs_12, (Nat.le_refl _), (by omega), (fun z h1 h2 => absurd h1 (by omega)), (by kernel_rfl), (by kernel_rfl), (by kernel_rfl), (by kernel_rfl), (by kernel_rfl), (by kernel_rfl), (by kernel_rfl)⟩ ?_
    rintro m_20 e_21 w_22 ⟨j, hm_24, hs_23, hj1, hjx, hrj, hv_25, hv_26, hv_27, hv_28, hv_29, hv_30, hv_31⟩
    obtain ⟨e_32, rfl⟩ : ∃ e_32, e_21 = put1 (put1 (put1 (put1 (put1 (put1 (put1 e_32 0 (.slice aF ((Ls).length) cF)) 2 (.bool false)) 3 (.int .i64 ((k : Nat) : Int))) 4 (.int .i64 ((j : Nat) : Int))) 14 (.int .i64 (((Ls).length : Nat) : Int))) 15 (.int .i64 ((k : Nat) : Int))) 16 (.bool true) := ⟨e_21, (put_self hv_31).trans (congrArg (fun z => put1 z 16 (.bool true)) ((put_self hv_30).trans (congrArg (fun z => put1 z 15 (.int .i64 ((k : Nat) : Int))) ((put_self hv_29).trans (congrArg (fun z => put1 z 14 (.int .i64 (((Ls).length : Nat) : Int))) ((put_self hv_28).trans (congrArg (fun z => put1 z 4 (.int .i64 ((j : Nat) : Int))) ((put_self hv_27).trans (congrArg (fun z => put1 z 3 (.int .i64 ((k : Nat) : Int))) ((put_self hv_26).trans (congrArg (fun z => put1 z 2 (.bool false)) (put_self hv_25))))))))))))⟩
    clear hv_25 hv_26 hv_27 hv_28 hv_29 hv_30 hv_31
    have hE12 : k < Ls.length → E.xs.length ≤ 12 := fun h => by rw [hE]; exact (hF12 _ (getD_mem h)).1
    refine CW.seq ?_
    refine CW.seq ?_
    refine CW.region ?_
    refine SL.v (.int .i64 ((j : Nat) : Int)) ?_
    refine SL.v (.slice aF ((Ls).length) cF) ?_
    refine SL.v (.int .i64 ((k : Nat) : Int)) ?_
    obtain ⟨sb, soff, sC, sT, sfr, hsa, hsb, hsrc⟩ := hOut (by omega)
    refine SL.val (v := .pointer (some ⟨sb, soff + k, none⟩)) (w' := w_22) rfl rfl ((run_ixS (len := (Ls).length) (cap := cF) (q := .i64) (I := ((k : Nat) : Int)) (i := k) (size := 1) hsa rfl (by kernel_rfl) (by kernel_rfl) rfl (by kernel_rfl) (by kernel_rfl) (by omega)).trans (by rw [Nat.mul_one])) ?_
    refine SL.load (g := sb) (off := soff + k) (v := .slice E.a E.xs.length E.c) rfl rfl rfl (by kernel_rfl) (hs_23.gr.blk hsb) (ldV_one (by kernel_rfl) (by kernel_rfl) (by have h_ := hsrc k (by omega); rw [← hE] at h_; exact h_)) ?_
    refine SL.val (v := .int .i64 ((E.xs.length : Nat) : Int)) (w' := w_22) rfl rfl (by kernel_rfl) ?_
    refine SL.v (.bool (decide (((j : Nat) : Int) < ((E.xs.length : Nat) : Int)))) ?_
    refine SL.nil ?_
    rcases Bool.eq_false_or_eq_true (decide (((j : Nat) : Int) < ((E.xs.length : Nat) : Int))) with hb_33 | hb_33
    · try rw [hb_33]
      have hqhb_33 := of_decide_eq_true hb_33
      refine CW.cond_true (by kernel_rfl) ?_
      refine CW.skip ?_
      refine CW.seq ?_
      refine CW.block ?_
      refine CW.seq ?_
      obtain ⟨ib, ioff, hia, hir⟩ := (hLF _ (getD_mem (Ls := Ls) (k := k) (by omega))).1 (by rw [← hE]; omega)
      rw [← hE] at hia hir
      have HGR : GrL [fun v _ => v = .slice aF ((Ls).length) cF, fun v _ => v = .int .i64 ((k : Nat) : Int), fun v _ => v = .pointer (some ⟨sb, soff + k, none⟩), fun v _ => v = .slice E.a E.xs.length E.c, fun v _ => v = .int .i64 ((j : Nat) : Int), fun v _ => v = .pointer (some ⟨ib, ioff + j * 9, none⟩), fun v _ => v = .pointer (some ⟨ib, ioff + j * 9, none⟩), fun v _ => v = .int .i64 ((E.xs.getD j itm0).at_), fun v _ => v = .slice aF ((Ls).length) cF, fun v _ => v = .int .i64 ((k : Nat) : Int), fun v _ => v = .pointer (some ⟨sb, soff + k, none⟩), fun v _ => v = .slice E.a E.xs.length E.c, fun v _ => v = .int .i64 ((j : Nat) : Int), fun v _ => v = .int .i64 ((j - 1 : Nat) : Int), fun v _ => v = .pointer (some ⟨ib, ioff + (j - 1) * 9, none⟩), fun v _ => v = .pointer (some ⟨ib, ioff + (j - 1) * 9, none⟩), fun v _ => v = .int .i64 ((E.xs.getD (j - 1) itm0).at_)] := ⟨fun _ _ _ _ h => h, ⟨fun _ _ _ _ h => h, ⟨fun _ _ _ _ h => h, ⟨fun _ _ _ _ h => h, ⟨fun _ _ _ _ h => h, ⟨fun _ _ _ _ h => h, ⟨fun _ _ _ _ h => h, ⟨fun _ _ _ _ h => h, ⟨fun _ _ _ _ h => h, ⟨fun _ _ _ _ h => h, ⟨fun _ _ _ _ h => h, ⟨fun _ _ _ _ h => h, ⟨fun _ _ _ _ h => h, ⟨fun _ _ _ _ h => h, ⟨fun _ _ _ _ h => h, ⟨fun _ _ _ _ h => h, ⟨fun _ _ _ _ h => h, trivial⟩⟩⟩⟩⟩⟩⟩⟩⟩⟩⟩⟩⟩⟩⟩⟩⟩
      refine CW.draw 17 (FW [fun v _ => v = .slice aF ((Ls).length) cF, fun v _ => v = .int .i64 ((k : Nat) : Int), fun v _ => v = .pointer (some ⟨sb, soff + k, none⟩), fun v _ => v = .slice E.a E.xs.length E.c, fun v _ => v = .int .i64 ((j : Nat) : Int), fun v _ => v = .pointer (some ⟨ib, ioff + j * 9, none⟩), fun v _ => v = .pointer (some ⟨ib, ioff + j * 9, none⟩), fun v _ => v = .int .i64 ((E.xs.getD j itm0).at_), fun v _ => v = .slice aF ((Ls).length) cF, fun v _ => v = .int .i64 ((k : Nat) : Int), fun v _ => v = .pointer (some ⟨sb, soff + k, none⟩), fun v _ => v = .slice E.a E.xs.length E.c, fun v _ => v = .int .i64 ((j : Nat) : Int), fun v _ => v = .int .i64 ((j - 1 : Nat) : Int), fun v _ => v = .pointer (some ⟨ib, ioff + (j - 1) * 9, none⟩), fun v _ => v = .pointer (some ⟨ib, ioff + (j - 1) * 9, none⟩), fun v _ => v = .int .i64 ((E.xs.getD (j - 1) itm0).at_)]) (fun W => Gr w_22 W) (by kernel_rfl) (by kernel_rfl) (by kernel_rfl) (by kernel_rfl) (by kernel_rfl) (Gr.refl _).drew ?_ ?_
      · refine ⟨?_, ⟨?_, ⟨?_, ⟨?_, ⟨?_, ⟨?_, ⟨?_, ⟨?_, ⟨?_, ⟨?_, ⟨?_, ⟨?_, ⟨?_, ⟨?_, ⟨?_, ⟨?_, ⟨?_, trivial⟩⟩⟩⟩⟩⟩⟩⟩⟩⟩⟩⟩⟩⟩⟩⟩⟩
        · intro L ys W hB hF hP K hK
          show OpE _ _ _ W K
          exact OpE.val (.slice aF ((Ls).length) cF) W (by kernel_rfl) (hK _ W hB rfl (fun _ _ h => h))
        · intro L ys W hB hF hP K hK
          show OpE _ _ _ W K
          exact OpE.val (.int .i64 ((k : Nat) : Int)) W (by kernel_rfl) (hK _ W hB rfl (fun _ _ h => h))
        · intro L ys W hB hF hP K hK
          show OpE _ _ _ W K
          exact OpE.known (j := 0) (v := .slice aF ((Ls).length) cF) (hF 0 (hP.1 rfl)) (OpE.known (j := 1) (v := .int .i64 ((k : Nat) : Int)) (hF 1 (hP.2.1 rfl)) (OpE.val (.pointer (some ⟨sb, soff + k, none⟩)) W ((run_ixS (len := (Ls).length) (cap := cF) (q := .i64) (I := ((k : Nat) : Int)) (i := k) (size := 1) hsa rfl (by kernel_rfl) (by kernel_rfl) rfl (by kernel_rfl) (by kernel_rfl) (by omega)).trans (by rw [Nat.mul_one])) (hK _ W hB rfl (fun _ _ h => h))))
        · intro L ys W hB hF hP K hK
          show OpE _ _ _ W K
          exact OpE.known (j := 2) (v := .pointer (some ⟨sb, soff + k, none⟩)) (hF 2 (hP.1 rfl)) (OpE.load (g := sb) (off := soff + k) (v := .slice E.a E.xs.length E.c) rfl (by kernel_rfl) ((hs_23.grow hB).gr.blk hsb) (ldV_one (by kernel_rfl) (by kernel_rfl) (by have h_ := hsrc k (by omega); rw [← hE] at h_; exact h_)) (hK _ W hB rfl (fun _ _ h => h)))
        · intro L ys W hB hF hP K hK
          show OpE _ _ _ W K
          exact OpE.val (.int .i64 ((j : Nat) : Int)) W (by kernel_rfl) (hK _ W hB rfl (fun _ _ h => h))
        · intro L ys W hB hF hP K hK
          show OpE _ _ _ W K
          exact OpE.known (j := 3) (v := .slice E.a E.xs.length E.c) (hF 3 (hP.1 rfl)) (OpE.known (j := 4) (v := .int .i64 ((j : Nat) : Int)) (hF 4 (hP.2.1 rfl)) (OpE.val (.pointer (some ⟨ib, ioff + j * 9, none⟩)) W (run_ixS (len := E.xs.length) (cap := E.c) (q := .i64) (I := ((j : Nat) : Int)) (i := j) (size := 9) hia rfl (by kernel_rfl) (by kernel_rfl) rfl (by kernel_rfl) (by kernel_rfl) (by omega)) (hK _ W hB rfl (fun _ _ h => h))))
        · intro L ys W hB hF hP K hK
          show OpE _ _ _ W K
          exact OpE.known (j := 5) (v := .pointer (some ⟨ib, ioff + j * 9, none⟩)) (hF 5 (hP.1 rfl)) (OpE.val (.pointer (some ⟨ib, ioff + j * 9, none⟩)) W (by kernel_rfl) (hK _ W hB rfl (fun _ _ h => h)))
        · intro L ys W hB hF hP K hK
          show OpE _ _ _ W K
          exact OpE.known (j := 6) (v := .pointer (some ⟨ib, ioff + j * 9, none⟩)) (hF 6 (hP.1 rfl)) (OpE.load (g := ib) (off := ioff + j * 9) (v := .int .i64 ((E.xs.getD j itm0).at_)) rfl (by kernel_rfl) (hir.gr (hs_23.grow hB).gr).blk (ldV_one (by kernel_rfl) (by kernel_rfl) ((hir.gr (hs_23.grow hB).gr).one (i := j) (by omega) (j := 0) (show (itC (E.xs.getD j itm0))[0]? = _ by rfl))) (hK _ W hB rfl (fun _ _ h => h)))
        · intro L ys W hB hF hP K hK
          show OpE _ _ _ W K
          exact OpE.val (.slice aF ((Ls).length) cF) W (by kernel_rfl) (hK _ W hB rfl (fun _ _ h => h))
        · intro L ys W hB hF hP K hK
          show OpE _ _ _ W K
          exact OpE.val (.int .i64 ((k : Nat) : Int)) W (by kernel_rfl) (hK _ W hB rfl (fun _ _ h => h))
        · intro L ys W hB hF hP K hK
          show OpE _ _ _ W K
          exact OpE.known (j := 8) (v := .slice aF ((Ls).length) cF) (hF 8 (hP.1 rfl)) (OpE.known (j := 9) (v := .int .i64 ((k : Nat) : Int)) (hF 9 (hP.2.1 rfl)) (OpE.val (.pointer (some ⟨sb, soff + k, none⟩)) W ((run_ixS (len := (Ls).length) (cap := cF) (q := .i64) (I := ((k : Nat) : Int)) (i := k) (size := 1) hsa rfl (by kernel_rfl) (by kernel_rfl) rfl (by kernel_rfl) (by kernel_rfl) (by omega)).trans (by rw [Nat.mul_one])) (hK _ W hB rfl (fun _ _ h => h))))
        · intro L ys W hB hF hP K hK
          show OpE _ _ _ W K
          exact OpE.known (j := 10) (v := .pointer (some ⟨sb, soff + k, none⟩)) (hF 10 (hP.1 rfl)) (OpE.load (g := sb) (off := soff + k) (v := .slice E.a E.xs.length E.c) rfl (by kernel_rfl) ((hs_23.grow hB).gr.blk hsb) (ldV_one (by kernel_rfl) (by kernel_rfl) (by have h_ := hsrc k (by omega); rw [← hE] at h_; exact h_)) (hK _ W hB rfl (fun _ _ h => h)))
        · intro L ys W hB hF hP K hK
          show OpE _ _ _ W K
          exact OpE.val (.int .i64 ((j : Nat) : Int)) W (by kernel_rfl) (hK _ W hB rfl (fun _ _ h => h))
        · intro L ys W hB hF hP K hK
          show OpE _ _ _ W K
          exact OpE.known (j := 12) (v := .int .i64 ((j : Nat) : Int)) (hF 12 (hP.1 rfl)) (OpE.val (.int .i64 ((j - 1 : Nat) : Int)) W (by have hw : IntKind.i64.wrap (((j : Nat) : Int) - 1) = ((j - 1 : Nat) : Int) := (IntWalk.i64_in _ (by omega)).trans (by omega); exact run_eqv (by kernel_rfl) (congrArg (fun z => Value.int .i64 z) hw)) (hK _ W hB rfl (fun _ _ h => h)))
        · intro L ys W hB hF hP K hK
          show OpE _ _ _ W K
          exact OpE.known (j := 11) (v := .slice E.a E.xs.length E.c) (hF 11 (hP.1 rfl)) (OpE.known (j := 13) (v := .int .i64 ((j - 1 : Nat) : Int)) (hF 13 (hP.2.1 rfl)) (OpE.val (.pointer (some ⟨ib, ioff + (j - 1) * 9, none⟩)) W (run_ixS (len := E.xs.length) (cap := E.c) (q := .i64) (I := ((j - 1 : Nat) : Int)) (i := j - 1) (size := 9) hia rfl (by kernel_rfl) (by kernel_rfl) rfl (by kernel_rfl) (by kernel_rfl) (by omega)) (hK _ W hB rfl (fun _ _ h => h))))
        · intro L ys W hB hF hP K hK
          show OpE _ _ _ W K
          exact OpE.known (j := 14) (v := .pointer (some ⟨ib, ioff + (j - 1) * 9, none⟩)) (hF 14 (hP.1 rfl)) (OpE.val (.pointer (some ⟨ib, ioff + (j - 1) * 9, none⟩)) W (by kernel_rfl) (hK _ W hB rfl (fun _ _ h => h)))
        · intro L ys W hB hF hP K hK
          show OpE _ _ _ W K
          exact OpE.known (j := 15) (v := .pointer (some ⟨ib, ioff + (j - 1) * 9, none⟩)) (hF 15 (hP.1 rfl)) (OpE.load (g := ib) (off := ioff + (j - 1) * 9) (v := .int .i64 ((E.xs.getD (j - 1) itm0).at_)) rfl (by kernel_rfl) (hir.gr (hs_23.grow hB).gr).blk (ldV_one (by kernel_rfl) (by kernel_rfl) ((hir.gr (hs_23.grow hB).gr).one (i := (j - 1)) (by omega) (j := 0) (show (itC (E.xs.getD (j - 1) itm0))[0]? = _ by rfl))) (hK _ W hB rfl (fun _ _ h => h)))
      · intro ys_37 w_34 hs_35 hF_36
        have hg_38 := hs_35
        have hs_35 : SH [] w_4 w_34 [] := hs_23.grow hg_38
        refine SL.knownY (j := 7) (v := .int .i64 ((E.xs.getD j itm0).at_)) (show ys_37 7 = .int .i64 ((E.xs.getD j itm0).at_) from hF_36 7 (by decide)) (SL.knownY (j := 16) (v := .int .i64 ((E.xs.getD (j - 1) itm0).at_)) (show ys_37 16 = .int .i64 ((E.xs.getD (j - 1) itm0).at_) from hF_36 16 (by decide)) (?_))
        clear hF_36 HGR
        refine SL.v (.bool (decide (((E.xs.getD j itm0).at_) < ((E.xs.getD (j - 1) itm0).at_)))) ?_
        refine SL.nil ?_
        rcases Bool.eq_false_or_eq_true (decide (((E.xs.getD j itm0).at_) < ((E.xs.getD (j - 1) itm0).at_))) with hb_39 | hb_39
        · try rw [hb_39]
          have hqhb_39 := of_decide_eq_true hb_39
          refine CW.cond_true (by kernel_rfl) ?_
          refine CW.seq ?_
          refine CW.region ?_
          refine SL.v (.bool true) ?_
          refine SL.nil ?_
          refine CW.ret ?_
          repeat with_reducible first | refine PThen.ret ?_ | refine PBlock.ret ?_
          refine PRet.tmp (t := 2) (v := .bool true) rfl rfl (by kernel_rfl) ?_
          exact ⟨rfl, (hG_7.trans hs_35.gr)⟩
        · try rw [hb_39]
          have hqhb_39 := of_decide_eq_false hb_39
          refine CW.cond_false (by kernel_rfl) ?_
          refine CW.skip ?_
          refine CW.region ?_
          refine SL.v (.int .i64 ((j : Nat) : Int)) ?_
          refine SL.val (v := .int .i64 ((j + 1 : Nat) : Int)) (w' := w_34) rfl rfl (by have hw : IntKind.i64.wrap (((j : Nat) : Int) + 1) = ((j + 1 : Nat) : Int) := (IntWalk.i64_in _ (by omega)).trans (by omega); exact run_eqv (by kernel_rfl) (congrArg (fun z => Value.int .i64 z) hw)) ?_
          refine SL.v (.int .i64 ((j + 1 : Nat) : Int)) ?_
          refine SL.nil ?_
          exact ⟨_, ⟨j + 1, rfl, hs_35, (by omega), (by omega), (fun z h1 h2 h3 => by rcases Nat.lt_succ_iff_lt_or_eq.1 h2 with h_ | rfl; exact hrj z h1 h_ h3; omega), (by kernel_rfl), (by kernel_rfl), (by kernel_rfl), (by kernel_rfl), (by kernel_rfl), (by kernel_rfl), (by kernel_rfl)⟩, by omega⟩
    · try rw [hb_33]
      have hqhb_33 := of_decide_eq_false hb_33
      refine CW.cond_false (by kernel_rfl) ?_
      refine CW.exit ?_
      repeat with_reducible first | refine PThen.exit ?_ | refine PBlock.out rfl ?_
      with_reducible refine PBlock.here ?_
      repeat with_reducible refine PBlock.normal ?_
      refine CW.region ?_
      refine SL.val (v := .int .i64 ((k + 1 : Nat) : Int)) (w' := w_22) rfl rfl (by have hw : IntKind.i64.wrap (((k : Nat) : Int) + 1) = ((k + 1 : Nat) : Int) := (IntWalk.i64_in _ (by omega)).trans (by omega); exact run_eqv (by kernel_rfl) (congrArg (fun z => Value.int .i64 z) hw)) ?_
      refine SL.v (.int .i64 ((k + 1 : Nat) : Int)) ?_
      refine SL.nil ?_
      exact ⟨_, ⟨k + 1, rfl, (hs_23.pick [] rfl), (by omega), (fun z hz => by rcases Nat.lt_succ_iff_lt_or_eq.1 hz with h_ | rfl; exact hrs z h_; intro y h1 h2; rw [← hE] at h2 ⊢; exact hrj y h1 (by omega) h2), (by kernel_rfl), (by kernel_rfl), (by kernel_rfl), (by kernel_rfl)⟩, by omega⟩
  · try rw [hb_19]
    have hqhb_19 := of_decide_eq_false hb_19
    refine CW.cond_false (by kernel_rfl) ?_
    refine CW.exit ?_
    repeat with_reducible first | refine PThen.exit ?_ | refine PBlock.out rfl ?_
    with_reducible refine PBlock.here ?_
    repeat with_reducible refine PBlock.normal ?_
    refine CW.seq ?_
    refine CW.region ?_
    refine SL.v (.slice aF ((Ls).length) cF) ?_
    have hOut9 := hOut.gr hs_12.gr
    have hLF9 := hLF.gr hs_12.gr
    refine SL.call (f := 8) (args := #[.slice aF ((Ls).length) cF]) (w1 := w_11) rfl rfl (by kernel_rfl) (own_fact aF cF Ls w_11 hOut9 hLF9 hF8 hF12) ?_
    rintro x w_40 ⟨O, aO, cO, rfl, hspO, hOutO, hLFO, hLIO, hc_41⟩
    refine ⟨_, rfl, ?_⟩
    have hs_42 := hs_12.grow hc_41
    have hG_43 := (hG_7.trans hs_42.gr)
    have hs_44 := SH.none w_40
    have hOut := hOut9.gr hc_41
    have hLF := hLF9.gr hc_41
    have hlens9 := lens_of hspO
    have hOl9 : O.length = Ls.length := by have h_ := congrArg List.length hspO; rw [List.length_map, List.length_map] at h_; exact h_
    have hto9 : totQ (headsF 0 O) = (Ls.map fun e => e.xs.length).sum := by rw [totQ_heads, hlens9]
    have hto8 := sum_le 12 (l := Ls.map fun e => e.xs.length) (fun x hx => by obtain ⟨y, hy, rfl⟩ := List.mem_map.1 hx; exact (hF12 y hy).1)
    rw [List.length_map] at hto8
    have hrO9 : ∀ e ∈ O, riseX e.xs := fun e he => by
      have h1_ : bareL e ∈ Ls.map bareL := by rw [← hspO]; exact List.mem_map_of_mem he
      obtain ⟨y, hy, hye⟩ := List.mem_map.1 h1_
      obtain ⟨z, hz, rfl⟩ := List.mem_iff_getElem.1 hy
      have h2_ := hrs z (by omega)
      rw [List.getD_eq_getElem?_getD, List.getElem?_eq_getElem hz] at h2_
      exact rise_bare hye.symm h2_
    refine SL.callH (f := 7) (args := #[.slice aO ((O).length) cO]) (Pre := []) (Rest := []) [] hs_44 rfl rfl (by kernel_rfl) rfl (merge_f aO cO O w_40 (hOutO.gr hs_44.gr) (hLIO.gr hs_44.gr) (by omega) (by omega)) ?_
    rintro v_ Q_ w_50 ⟨a_45, c_46, ps_47, rfl, hr_48, hl_49, rfl⟩ hs_52
    have hs_52 : SH [] w_40 w_50 [rowH 39 10 a_45 (ps_47).length c_46 (pcells ps_47), allH ((ps_47).map clH)] := hs_52
    have hord9 := hr_48.rises (headsF_rise fun e he => hrO9 e he)
    have hpl9 : ps_47.length = (Ls.map fun e => e.xs.length).sum := hl_49.trans hto9
    have hop9 : (ordP ps_47).length = ps_47.length := by simp [ordP]
    refine SL.v (.slice a_45 ((ps_47).length) c_46) ?_
    refine SL.nil ?_
    refine CW.seq ?_
    refine CW.region ?_
    refine SL.v (.int .i64 0) ?_
    refine SL.nil ?_
    refine CW.seq ?_
    refine CW.seq ?_
    refine CW.region ?_
    refine SL.v (.slice a_45 ((ps_47).length) c_46) ?_
    refine SL.val (v := .int .i64 (((ps_47).length : Nat) : Int)) (w' := w_50) rfl rfl (by kernel_rfl) ?_
    refine SL.v (.int .i64 0) ?_
    refine SL.nil ?_
    refine CW.block ?_
    have hord : ∀ i, 0 < i → i < ps_47.length → ordLe ((ps_47.getD (i - 1) pl0).x, (ps_47.getD (i - 1) pl0).n) ((ps_47.getD i pl0).x, (ps_47.getD i pl0).n) := fun i h0 hi => by rw [← ordP_at hi, ← ordP_at (show i - 1 < ps_47.length by omega)]; exact hord9 i h0 (by rw [hop9]; exact hi)
    have hs_53 := hs_52.pick [0] rfl
    refine CW.loopI (fun m_ e9 w9 => ∃ (i : Nat), m_ = ps_47.length - i ∧ SH [] w_40 w9 [rowH 39 10 a_45 (ps_47).length c_46 (pcells ps_47)] ∧ (i ≤ ps_47.length) ∧ e9 0 = .slice aF ((Ls).length) cF ∧ e9 2 = .bool false ∧ e9 5 = .slice a_45 ((ps_47).length) c_46 ∧ e9 6 = .int .i64 0 ∧ e9 50 = .int .i64 (((ps_47).length : Nat) : Int) ∧ e9 51 = .int .i64 ((i : Nat) : Int)) ⟨_, 0, rfl, hs_53, (Nat.zero_le _), (by kernel_rfl), (by kernel_rfl), (by kernel_rfl), (by kernel_rfl), (by kernel_rfl), (by kernel_rfl)⟩ ?_
    rintro m_54 e_55 w_56 ⟨i, hm_58, hs_57, hi, hv_59, hv_60, hv_61, hv_62, hv_63, hv_64⟩
    obtain ⟨e_65, rfl⟩ : ∃ e_65, e_55 = put1 (put1 (put1 (put1 (put1 (put1 e_65 0 (.slice aF ((Ls).length) cF)) 2 (.bool false)) 5 (.slice a_45 ((ps_47).length) c_46)) 6 (.int .i64 0)) 50 (.int .i64 (((ps_47).length : Nat) : Int))) 51 (.int .i64 ((i : Nat) : Int)) := ⟨e_55, (put_self hv_64).trans (congrArg (fun z => put1 z 51 (.int .i64 ((i : Nat) : Int))) ((put_self hv_63).trans (congrArg (fun z => put1 z 50 (.int .i64 (((ps_47).length : Nat) : Int))) ((put_self hv_62).trans (congrArg (fun z => put1 z 6 (.int .i64 0)) ((put_self hv_61).trans (congrArg (fun z => put1 z 5 (.slice a_45 ((ps_47).length) c_46)) ((put_self hv_60).trans (congrArg (fun z => put1 z 2 (.bool false)) (put_self hv_59))))))))))⟩
    clear hv_59 hv_60 hv_61 hv_62 hv_63 hv_64
    refine CW.seq ?_
    refine CW.region ?_
    refine SL.v (.bool (decide (((i : Nat) : Int) < (((ps_47).length : Nat) : Int)))) ?_
    refine SL.nil ?_
    refine CW.seq ?_
    rcases Bool.eq_false_or_eq_true (decide (((i : Nat) : Int) < (((ps_47).length : Nat) : Int))) with hb_66 | hb_66
    · try rw [hb_66]
      have hqhb_66 := of_decide_eq_true hb_66
      refine CW.cond_true (by kernel_rfl) ?_
      refine CW.skip ?_
      refine CW.seq ?_
      refine CW.block ?_
      refine CW.seq ?_
      refine CW.region ?_
      refine SL.v (.int .i64 ((i : Nat) : Int)) ?_
      refine SL.v (.int .i64 ((i : Nat) : Int)) ?_
      refine SL.nil ?_
      refine CW.seq ?_
      rcases Bool.eq_false_or_eq_true (decide (0 < ((i : Nat) : Int))) with hb_67 | hb_67
      · try rw [hb_67]
        have hqhb_67 := of_decide_eq_true hb_67
        rcases Bool.eq_false_or_eq_true (decide (((ps_47.getD i pl0).x.at_) < ((ps_47.getD (i - 1) pl0).x.at_))) with hb_68 | hb_68
        · try rw [hb_68]
          have hqhb_68 := of_decide_eq_true hb_68
          obtain ⟨g_69, ha_70⟩ := hs_57.row_some (i := 0) rfl (show 0 < (ps_47).length by omega)
          have HGR : GrL [fun v _ => v = .int .i64 ((i : Nat) : Int), fun v _ => v = .bool true, fun v _ => v = .bool true, fun v _ => v = .slice a_45 ((ps_47).length) c_46, fun v _ => v = .int .i64 ((i : Nat) : Int), fun v _ => v = .pointer (some ⟨g_69, i * 10, none⟩), fun v _ => v = .pointer (some ⟨g_69, i * 10, none⟩), fun v _ => v = .pointer (some ⟨g_69, i * 10, none⟩), fun v _ => v = .int .i64 ((ps_47.getD i pl0).x.at_), fun v _ => v = .slice a_45 ((ps_47).length) c_46, fun v _ => v = .int .i64 ((i : Nat) : Int), fun v _ => v = .int .i64 ((i - 1 : Nat) : Int), fun v _ => v = .pointer (some ⟨g_69, (i - 1) * 10, none⟩), fun v _ => v = .pointer (some ⟨g_69, (i - 1) * 10, none⟩), fun v _ => v = .pointer (some ⟨g_69, (i - 1) * 10, none⟩), fun v _ => v = .int .i64 ((ps_47.getD (i - 1) pl0).x.at_), fun v _ => v = .bool true, fun v _ => v = .bool true, fun v _ => v = undef, fun v _ => v = undef, fun v _ => v = undef, fun v _ => v = undef, fun v _ => v = undef, fun v _ => v = undef, fun v _ => v = undef, fun v _ => v = undef, fun v _ => v = undef, fun v _ => v = undef, fun v _ => v = undef, fun v _ => v = undef, fun v _ => v = undef, fun v _ => v = undef, fun v _ => v = undef, fun v _ => v = undef, fun v _ => v = undef, fun v _ => v = undef, fun v _ => v = undef, fun v _ => v = undef, fun v _ => v = undef, fun v _ => v = undef, fun v _ => v = undef, fun v _ => v = undef, fun v _ => v = undef, fun v _ => v = undef] := ⟨fun _ _ _ _ h => h, ⟨fun _ _ _ _ h => h, ⟨fun _ _ _ _ h => h, ⟨fun _ _ _ _ h => h, ⟨fun _ _ _ _ h => h, ⟨fun _ _ _ _ h => h, ⟨fun _ _ _ _ h => h, ⟨fun _ _ _ _ h => h, ⟨fun _ _ _ _ h => h, ⟨fun _ _ _ _ h => h, ⟨fun _ _ _ _ h => h, ⟨fun _ _ _ _ h => h, ⟨fun _ _ _ _ h => h, ⟨fun _ _ _ _ h => h, ⟨fun _ _ _ _ h => h, ⟨fun _ _ _ _ h => h, ⟨fun _ _ _ _ h => h, ⟨fun _ _ _ _ h => h, ⟨fun _ _ _ _ h => h, ⟨fun _ _ _ _ h => h, ⟨fun _ _ _ _ h => h, ⟨fun _ _ _ _ h => h, ⟨fun _ _ _ _ h => h, ⟨fun _ _ _ _ h => h, ⟨fun _ _ _ _ h => h, ⟨fun _ _ _ _ h => h, ⟨fun _ _ _ _ h => h, ⟨fun _ _ _ _ h => h, ⟨fun _ _ _ _ h => h, ⟨fun _ _ _ _ h => h, ⟨fun _ _ _ _ h => h, ⟨fun _ _ _ _ h => h, ⟨fun _ _ _ _ h => h, ⟨fun _ _ _ _ h => h, ⟨fun _ _ _ _ h => h, ⟨fun _ _ _ _ h => h, ⟨fun _ _ _ _ h => h, ⟨fun _ _ _ _ h => h, ⟨fun _ _ _ _ h => h, ⟨fun _ _ _ _ h => h, ⟨fun _ _ _ _ h => h, ⟨fun _ _ _ _ h => h, ⟨fun _ _ _ _ h => h, ⟨fun _ _ _ _ h => h, trivial⟩⟩⟩⟩⟩⟩⟩⟩⟩⟩⟩⟩⟩⟩⟩⟩⟩⟩⟩⟩⟩⟩⟩⟩⟩⟩⟩⟩⟩⟩⟩⟩⟩⟩⟩⟩⟩⟩⟩⟩⟩⟩⟩⟩
          refine CW.drawV 44 (FW [fun v _ => v = .int .i64 ((i : Nat) : Int), fun v _ => v = .bool true, fun v _ => v = .bool true, fun v _ => v = .slice a_45 ((ps_47).length) c_46, fun v _ => v = .int .i64 ((i : Nat) : Int), fun v _ => v = .pointer (some ⟨g_69, i * 10, none⟩), fun v _ => v = .pointer (some ⟨g_69, i * 10, none⟩), fun v _ => v = .pointer (some ⟨g_69, i * 10, none⟩), fun v _ => v = .int .i64 ((ps_47.getD i pl0).x.at_), fun v _ => v = .slice a_45 ((ps_47).length) c_46, fun v _ => v = .int .i64 ((i : Nat) : Int), fun v _ => v = .int .i64 ((i - 1 : Nat) : Int), fun v _ => v = .pointer (some ⟨g_69, (i - 1) * 10, none⟩), fun v _ => v = .pointer (some ⟨g_69, (i - 1) * 10, none⟩), fun v _ => v = .pointer (some ⟨g_69, (i - 1) * 10, none⟩), fun v _ => v = .int .i64 ((ps_47.getD (i - 1) pl0).x.at_), fun v _ => v = .bool true, fun v _ => v = .bool true, fun v _ => v = undef, fun v _ => v = undef, fun v _ => v = undef, fun v _ => v = undef, fun v _ => v = undef, fun v _ => v = undef, fun v _ => v = undef, fun v _ => v = undef, fun v _ => v = undef, fun v _ => v = undef, fun v _ => v = undef, fun v _ => v = undef, fun v _ => v = undef, fun v _ => v = undef, fun v _ => v = undef, fun v _ => v = undef, fun v _ => v = undef, fun v _ => v = undef, fun v _ => v = undef, fun v _ => v = undef, fun v _ => v = undef, fun v _ => v = undef, fun v _ => v = undef, fun v _ => v = undef, fun v _ => v = undef, fun v _ => v = undef]) (fun W => Gr w_56 W) (by kernel_rfl) (by kernel_rfl) (by kernel_rfl) (by kernel_rfl) (by kernel_rfl) (Gr.refl _).drew ?_ ?_
          · refine ⟨?_, ⟨?_, ⟨?_, ⟨?_, ⟨?_, ⟨?_, ⟨?_, ⟨?_, ⟨?_, ⟨?_, ⟨?_, ⟨?_, ⟨?_, ⟨?_, ⟨?_, ⟨?_, ⟨?_, ⟨?_, ⟨?_, ⟨?_, ⟨?_, ⟨?_, ⟨?_, ⟨?_, ⟨?_, ⟨?_, ⟨?_, ⟨?_, ⟨?_, ⟨?_, ⟨?_, ⟨?_, ⟨?_, ⟨?_, ⟨?_, ⟨?_, ⟨?_, ⟨?_, ⟨?_, ⟨?_, ⟨?_, ⟨?_, ⟨?_, ⟨?_, trivial⟩⟩⟩⟩⟩⟩⟩⟩⟩⟩⟩⟩⟩⟩⟩⟩⟩⟩⟩⟩⟩⟩⟩⟩⟩⟩⟩⟩⟩⟩⟩⟩⟩⟩⟩⟩⟩⟩⟩⟩⟩⟩⟩⟩
            · intro L ys W hB hF hP K hK
              refine .inl ?_
              show OpE _ _ _ W K
              exact OpE.val (.int .i64 ((i : Nat) : Int)) W (by kernel_rfl) (hK _ W hB rfl (fun _ _ h => h))
            · intro L ys W hB hF hP K hK
              refine .inl ?_
              show OpE _ _ _ W K
              exact OpE.known (j := 0) (v := .int .i64 ((i : Nat) : Int)) (hF 0 (hP.1 rfl)) (OpE.val (.bool true) W (run_eqv (by kernel_rfl) (congrArg Value.bool hb_67)) (hK _ W hB rfl (fun _ _ h => h)))
            · intro L ys W hB hF hP K hK
              refine .inl ?_
              show OpE _ _ _ W K
              exact OpE.known (j := 1) (v := .bool true) (hF 1 (hP.1 rfl)) (OpE.val (.bool true) W (by kernel_rfl) (hK _ W hB rfl (fun _ _ h => h)))
            · intro L ys W hB hF hP K hK
              refine .inl ⟨56, true, rfl, (show fillE _ 0 ys _ 56 = _ from (hF 2 (hP.1 rfl))), .inl ⟨rfl, ?_⟩⟩
              exact OpE.val (.slice a_45 ((ps_47).length) c_46) W (by kernel_rfl) (hK _ W hB rfl (fun _ _ h => h))
            · intro L ys W hB hF hP K hK
              refine .inl ⟨56, true, rfl, (show fillE _ 0 ys _ 56 = _ from (hF 2 (hP.1 rfl))), .inl ⟨rfl, ?_⟩⟩
              exact OpE.val (.int .i64 ((i : Nat) : Int)) W (by kernel_rfl) (hK _ W hB rfl (fun _ _ h => h))
            · intro L ys W hB hF hP K hK
              refine .inl ⟨56, true, rfl, (show fillE _ 0 ys _ 56 = _ from (hF 2 (hP.2.2.1 rfl))), .inl ⟨rfl, ?_⟩⟩
              exact OpE.known (j := 3) (v := .slice a_45 ((ps_47).length) c_46) (hF 3 (hP.1 rfl)) (OpE.known (j := 4) (v := .int .i64 ((i : Nat) : Int)) (hF 4 (hP.2.1 rfl)) (OpE.val (.pointer (some ⟨g_69, i * 10, none⟩)) W (run_ixR (len := (ps_47).length) (cap := c_46) (q := .i64) (I := ((i : Nat) : Int)) (i := i) (size := 10) ha_70 rfl (by kernel_rfl) (by kernel_rfl) rfl (by kernel_rfl) (by kernel_rfl) (by omega)) (hK _ W hB rfl (fun _ _ h => h))))
            · intro L ys W hB hF hP K hK
              refine .inl ⟨56, true, rfl, (show fillE _ 0 ys _ 56 = _ from (hF 2 (hP.2.1 rfl))), .inl ⟨rfl, ?_⟩⟩
              exact OpE.known (j := 5) (v := .pointer (some ⟨g_69, i * 10, none⟩)) (hF 5 (hP.1 rfl)) (OpE.val (.pointer (some ⟨g_69, i * 10, none⟩)) W (by kernel_rfl) (hK _ W hB rfl (fun _ _ h => h)))
            · intro L ys W hB hF hP K hK
              refine .inl ⟨56, true, rfl, (show fillE _ 0 ys _ 56 = _ from (hF 2 (hP.2.1 rfl))), .inl ⟨rfl, ?_⟩⟩
              exact OpE.known (j := 6) (v := .pointer (some ⟨g_69, i * 10, none⟩)) (hF 6 (hP.1 rfl)) (OpE.val (.pointer (some ⟨g_69, i * 10, none⟩)) W (by kernel_rfl) (hK _ W hB rfl (fun _ _ h => h)))
            · intro L ys W hB hF hP K hK
              refine .inl ⟨56, true, rfl, (show fillE _ 0 ys _ 56 = _ from (hF 2 (hP.2.1 rfl))), .inl ⟨rfl, ?_⟩⟩
              exact OpE.known (j := 7) (v := .pointer (some ⟨g_69, i * 10, none⟩)) (hF 7 (hP.1 rfl)) (OpE.load (g := g_69) (off := i * 10) (v := .int .i64 ((ps_47.getD i pl0).x.at_)) rfl (by kernel_rfl) ((hs_57.grow hB).row_blk (i := 0) ha_70 rfl) (ldV_one (by kernel_rfl) (by kernel_rfl) ((hs_57.grow hB).row_one (i := 0) ha_70 rfl (pcells_get (i := i) (j := 0) (by omega) rfl))) (hK _ W hB rfl (fun _ _ h => h)))
            · intro L ys W hB hF hP K hK
              refine .inl ⟨56, true, rfl, (show fillE _ 0 ys _ 56 = _ from (hF 2 (hP.1 rfl))), .inl ⟨rfl, ?_⟩⟩
              exact OpE.val (.slice a_45 ((ps_47).length) c_46) W (by kernel_rfl) (hK _ W hB rfl (fun _ _ h => h))
            · intro L ys W hB hF hP K hK
              refine .inl ⟨56, true, rfl, (show fillE _ 0 ys _ 56 = _ from (hF 2 (hP.1 rfl))), .inl ⟨rfl, ?_⟩⟩
              exact OpE.val (.int .i64 ((i : Nat) : Int)) W (by kernel_rfl) (hK _ W hB rfl (fun _ _ h => h))
            · intro L ys W hB hF hP K hK
              refine .inl ⟨56, true, rfl, (show fillE _ 0 ys _ 56 = _ from (hF 2 (hP.2.1 rfl))), .inl ⟨rfl, ?_⟩⟩
              exact OpE.known (j := 10) (v := .int .i64 ((i : Nat) : Int)) (hF 10 (hP.1 rfl)) (OpE.val (.int .i64 ((i - 1 : Nat) : Int)) W (by have hw : IntKind.i64.wrap (((i : Nat) : Int) - 1) = ((i - 1 : Nat) : Int) := (IntWalk.i64_in _ (by omega)).trans (by omega); exact run_eqv (by kernel_rfl) (congrArg (fun z => Value.int .i64 z) hw)) (hK _ W hB rfl (fun _ _ h => h)))
            · intro L ys W hB hF hP K hK
              refine .inl ⟨56, true, rfl, (show fillE _ 0 ys _ 56 = _ from (hF 2 (hP.2.2.1 rfl))), .inl ⟨rfl, ?_⟩⟩
              exact OpE.known (j := 9) (v := .slice a_45 ((ps_47).length) c_46) (hF 9 (hP.1 rfl)) (OpE.known (j := 11) (v := .int .i64 ((i - 1 : Nat) : Int)) (hF 11 (hP.2.1 rfl)) (OpE.val (.pointer (some ⟨g_69, (i - 1) * 10, none⟩)) W (run_ixR (len := (ps_47).length) (cap := c_46) (q := .i64) (I := ((i - 1 : Nat) : Int)) (i := i - 1) (size := 10) ha_70 rfl (by kernel_rfl) (by kernel_rfl) rfl (by kernel_rfl) (by kernel_rfl) (by omega)) (hK _ W hB rfl (fun _ _ h => h))))
            · intro L ys W hB hF hP K hK
              refine .inl ⟨56, true, rfl, (show fillE _ 0 ys _ 56 = _ from (hF 2 (hP.2.1 rfl))), .inl ⟨rfl, ?_⟩⟩
              exact OpE.known (j := 12) (v := .pointer (some ⟨g_69, (i - 1) * 10, none⟩)) (hF 12 (hP.1 rfl)) (OpE.val (.pointer (some ⟨g_69, (i - 1) * 10, none⟩)) W (by kernel_rfl) (hK _ W hB rfl (fun _ _ h => h)))
            · intro L ys W hB hF hP K hK
              refine .inl ⟨56, true, rfl, (show fillE _ 0 ys _ 56 = _ from (hF 2 (hP.2.1 rfl))), .inl ⟨rfl, ?_⟩⟩
              exact OpE.known (j := 13) (v := .pointer (some ⟨g_69, (i - 1) * 10, none⟩)) (hF 13 (hP.1 rfl)) (OpE.val (.pointer (some ⟨g_69, (i - 1) * 10, none⟩)) W (by kernel_rfl) (hK _ W hB rfl (fun _ _ h => h)))
            · intro L ys W hB hF hP K hK
              refine .inl ⟨56, true, rfl, (show fillE _ 0 ys _ 56 = _ from (hF 2 (hP.2.1 rfl))), .inl ⟨rfl, ?_⟩⟩
              exact OpE.known (j := 14) (v := .pointer (some ⟨g_69, (i - 1) * 10, none⟩)) (hF 14 (hP.1 rfl)) (OpE.load (g := g_69) (off := (i - 1) * 10) (v := .int .i64 ((ps_47.getD (i - 1) pl0).x.at_)) rfl (by kernel_rfl) ((hs_57.grow hB).row_blk (i := 0) ha_70 rfl) (ldV_one (by kernel_rfl) (by kernel_rfl) ((hs_57.grow hB).row_one (i := 0) ha_70 rfl (pcells_get (i := i - 1) (j := 0) (by omega) rfl))) (hK _ W hB rfl (fun _ _ h => h)))
            · intro L ys W hB hF hP K hK
              refine .inl ⟨56, true, rfl, (show fillE _ 0 ys _ 56 = _ from (hF 2 (hP.2.2.1 rfl))), .inl ⟨rfl, ?_⟩⟩
              exact OpE.known (j := 8) (v := .int .i64 ((ps_47.getD i pl0).x.at_)) (hF 8 (hP.1 rfl)) (OpE.known (j := 15) (v := .int .i64 ((ps_47.getD (i - 1) pl0).x.at_)) (hF 15 (hP.2.1 rfl)) (OpE.val (.bool true) W (run_eqv (by kernel_rfl) (congrArg Value.bool hb_68)) (hK _ W hB rfl (fun _ _ h => h))))
            · intro L ys W hB hF hP K hK
              refine .inl ⟨56, true, rfl, (show fillE _ 0 ys _ 56 = _ from (hF 2 (hP.2.2.1 rfl))), .inl ⟨rfl, ?_⟩⟩
              exact OpE.known (j := 16) (v := .bool true) (hF 16 (hP.1 rfl)) (OpE.val (.bool true) W (by kernel_rfl) (hK _ W hB rfl (fun _ _ h => h)))
            · intro L ys W hB hF hP K hK
              refine .inl ⟨71, true, rfl, (show fillE _ 0 ys _ 71 = _ from (hF 17 (hP.1 rfl))), .inr ⟨rfl, ?_⟩⟩
              exact hK _ W hB rfl (fun _ _ h => h)
            · intro L ys W hB hF hP K hK
              refine .inl ⟨71, true, rfl, (show fillE _ 0 ys _ 71 = _ from (hF 17 (hP.1 rfl))), .inr ⟨rfl, ?_⟩⟩
              exact hK _ W hB rfl (fun _ _ h => h)
            · intro L ys W hB hF hP K hK
              refine .inl ⟨71, true, rfl, (show fillE _ 0 ys _ 71 = _ from (hF 17 (hP.2.2.1 rfl))), .inr ⟨rfl, ?_⟩⟩
              exact hK _ W hB rfl (fun _ _ h => h)
            · intro L ys W hB hF hP K hK
              refine .inl ⟨71, true, rfl, (show fillE _ 0 ys _ 71 = _ from (hF 17 (hP.2.1 rfl))), .inr ⟨rfl, ?_⟩⟩
              exact hK _ W hB rfl (fun _ _ h => h)
            · intro L ys W hB hF hP K hK
              refine .inl ⟨71, true, rfl, (show fillE _ 0 ys _ 71 = _ from (hF 17 (hP.2.1 rfl))), .inr ⟨rfl, ?_⟩⟩
              exact hK _ W hB rfl (fun _ _ h => h)
            · intro L ys W hB hF hP K hK
              refine .inl ⟨71, true, rfl, (show fillE _ 0 ys _ 71 = _ from (hF 17 (hP.2.1 rfl))), .inr ⟨rfl, ?_⟩⟩
              exact hK _ W hB rfl (fun _ _ h => h)
            · intro L ys W hB hF hP K hK
              refine .inl ⟨71, true, rfl, (show fillE _ 0 ys _ 71 = _ from (hF 17 (hP.1 rfl))), .inr ⟨rfl, ?_⟩⟩
              exact hK _ W hB rfl (fun _ _ h => h)
            · intro L ys W hB hF hP K hK
              refine .inl ⟨71, true, rfl, (show fillE _ 0 ys _ 71 = _ from (hF 17 (hP.1 rfl))), .inr ⟨rfl, ?_⟩⟩
              exact hK _ W hB rfl (fun _ _ h => h)
            · intro L ys W hB hF hP K hK
              refine .inl ⟨71, true, rfl, (show fillE _ 0 ys _ 71 = _ from (hF 17 (hP.2.1 rfl))), .inr ⟨rfl, ?_⟩⟩
              exact hK _ W hB rfl (fun _ _ h => h)
            · intro L ys W hB hF hP K hK
              refine .inl ⟨71, true, rfl, (show fillE _ 0 ys _ 71 = _ from (hF 17 (hP.2.2.1 rfl))), .inr ⟨rfl, ?_⟩⟩
              exact hK _ W hB rfl (fun _ _ h => h)
            · intro L ys W hB hF hP K hK
              refine .inl ⟨71, true, rfl, (show fillE _ 0 ys _ 71 = _ from (hF 17 (hP.2.1 rfl))), .inr ⟨rfl, ?_⟩⟩
              exact hK _ W hB rfl (fun _ _ h => h)
            · intro L ys W hB hF hP K hK
              refine .inl ⟨71, true, rfl, (show fillE _ 0 ys _ 71 = _ from (hF 17 (hP.2.1 rfl))), .inr ⟨rfl, ?_⟩⟩
              exact hK _ W hB rfl (fun _ _ h => h)
            · intro L ys W hB hF hP K hK
              refine .inl ⟨71, true, rfl, (show fillE _ 0 ys _ 71 = _ from (hF 17 (hP.2.1 rfl))), .inr ⟨rfl, ?_⟩⟩
              exact hK _ W hB rfl (fun _ _ h => h)
            · intro L ys W hB hF hP K hK
              refine .inl ⟨71, true, rfl, (show fillE _ 0 ys _ 71 = _ from (hF 17 (hP.2.2.1 rfl))), .inr ⟨rfl, ?_⟩⟩
              exact hK _ W hB rfl (fun _ _ h => h)
            · intro L ys W hB hF hP K hK
              refine .inl ⟨71, true, rfl, (show fillE _ 0 ys _ 71 = _ from (hF 17 (hP.2.2.1 rfl))), .inr ⟨rfl, ?_⟩⟩
              exact hK _ W hB rfl (fun _ _ h => h)
            · intro L ys W hB hF hP K hK
              exact .inr ⟨32, true, 86, rfl, rfl, (show fillE _ 0 ys _ 86 = undef from (hF 32 (hP.1 rfl))), hK _ W hB rfl (fun _ _ h => h)⟩
            · intro L ys W hB hF hP K hK
              exact .inr ⟨32, true, 86, rfl, rfl, (show fillE _ 0 ys _ 86 = undef from (hF 32 (hP.1 rfl))), hK _ W hB rfl (fun _ _ h => h)⟩
            · intro L ys W hB hF hP K hK
              exact .inr ⟨32, true, 86, rfl, rfl, (show fillE _ 0 ys _ 86 = undef from (hF 32 (hP.2.2.1 rfl))), hK _ W hB rfl (fun _ _ h => h)⟩
            · intro L ys W hB hF hP K hK
              exact .inr ⟨32, true, 86, rfl, rfl, (show fillE _ 0 ys _ 86 = undef from (hF 32 (hP.2.1 rfl))), hK _ W hB rfl (fun _ _ h => h)⟩
            · intro L ys W hB hF hP K hK
              exact .inr ⟨32, true, 86, rfl, rfl, (show fillE _ 0 ys _ 86 = undef from (hF 32 (hP.2.1 rfl))), hK _ W hB rfl (fun _ _ h => h)⟩
            · intro L ys W hB hF hP K hK
              exact .inr ⟨32, true, 86, rfl, rfl, (show fillE _ 0 ys _ 86 = undef from (hF 32 (hP.1 rfl))), hK _ W hB rfl (fun _ _ h => h)⟩
            · intro L ys W hB hF hP K hK
              exact .inr ⟨32, true, 86, rfl, rfl, (show fillE _ 0 ys _ 86 = undef from (hF 32 (hP.1 rfl))), hK _ W hB rfl (fun _ _ h => h)⟩
            · intro L ys W hB hF hP K hK
              exact .inr ⟨32, true, 86, rfl, rfl, (show fillE _ 0 ys _ 86 = undef from (hF 32 (hP.2.1 rfl))), hK _ W hB rfl (fun _ _ h => h)⟩
            · intro L ys W hB hF hP K hK
              exact .inr ⟨32, true, 86, rfl, rfl, (show fillE _ 0 ys _ 86 = undef from (hF 32 (hP.2.2.1 rfl))), hK _ W hB rfl (fun _ _ h => h)⟩
            · intro L ys W hB hF hP K hK
              exact .inr ⟨32, true, 86, rfl, rfl, (show fillE _ 0 ys _ 86 = undef from (hF 32 (hP.2.1 rfl))), hK _ W hB rfl (fun _ _ h => h)⟩
            · intro L ys W hB hF hP K hK
              exact .inr ⟨32, true, 86, rfl, rfl, (show fillE _ 0 ys _ 86 = undef from (hF 32 (hP.2.1 rfl))), hK _ W hB rfl (fun _ _ h => h)⟩
          · intro ys_74 w_71 hs_72 hF_73
            have hg_75 := hs_72
            have hs_72 : SH [] w_40 w_71 [rowH 39 10 a_45 (ps_47).length c_46 (pcells ps_47)] := hs_57.grow hg_75
            refine SL.knownY (j := 2) (v := .bool true) (show ys_74 2 = .bool true from hF_73 2 (by decide)) (SL.knownY (j := 3) (v := .slice a_45 ((ps_47).length) c_46) (show ys_74 3 = .slice a_45 ((ps_47).length) c_46 from hF_73 3 (by decide)) (SL.knownY (j := 4) (v := .int .i64 ((i : Nat) : Int)) (show ys_74 4 = .int .i64 ((i : Nat) : Int) from hF_73 4 (by decide)) (SL.knownY (j := 5) (v := .pointer (some ⟨g_69, i * 10, none⟩)) (show ys_74 5 = .pointer (some ⟨g_69, i * 10, none⟩) from hF_73 5 (by decide)) (SL.knownY (j := 6) (v := .pointer (some ⟨g_69, i * 10, none⟩)) (show ys_74 6 = .pointer (some ⟨g_69, i * 10, none⟩) from hF_73 6 (by decide)) (SL.knownY (j := 7) (v := .pointer (some ⟨g_69, i * 10, none⟩)) (show ys_74 7 = .pointer (some ⟨g_69, i * 10, none⟩) from hF_73 7 (by decide)) (SL.knownY (j := 8) (v := .int .i64 ((ps_47.getD i pl0).x.at_)) (show ys_74 8 = .int .i64 ((ps_47.getD i pl0).x.at_) from hF_73 8 (by decide)) (SL.knownY (j := 9) (v := .slice a_45 ((ps_47).length) c_46) (show ys_74 9 = .slice a_45 ((ps_47).length) c_46 from hF_73 9 (by decide)) (SL.knownY (j := 10) (v := .int .i64 ((i : Nat) : Int)) (show ys_74 10 = .int .i64 ((i : Nat) : Int) from hF_73 10 (by decide)) (SL.knownY (j := 11) (v := .int .i64 ((i - 1 : Nat) : Int)) (show ys_74 11 = .int .i64 ((i - 1 : Nat) : Int) from hF_73 11 (by decide)) (SL.knownY (j := 12) (v := .pointer (some ⟨g_69, (i - 1) * 10, none⟩)) (show ys_74 12 = .pointer (some ⟨g_69, (i - 1) * 10, none⟩) from hF_73 12 (by decide)) (SL.knownY (j := 13) (v := .pointer (some ⟨g_69, (i - 1) * 10, none⟩)) (show ys_74 13 = .pointer (some ⟨g_69, (i - 1) * 10, none⟩) from hF_73 13 (by decide)) (SL.knownY (j := 14) (v := .pointer (some ⟨g_69, (i - 1) * 10, none⟩)) (show ys_74 14 = .pointer (some ⟨g_69, (i - 1) * 10, none⟩) from hF_73 14 (by decide)) (SL.knownY (j := 15) (v := .int .i64 ((ps_47.getD (i - 1) pl0).x.at_)) (show ys_74 15 = .int .i64 ((ps_47.getD (i - 1) pl0).x.at_) from hF_73 15 (by decide)) (SL.knownY (j := 16) (v := .bool true) (show ys_74 16 = .bool true from hF_73 16 (by decide)) (SL.knownY (j := 17) (v := .bool true) (show ys_74 17 = .bool true from hF_73 17 (by decide)) (SL.knownY (j := 32) (v := undef) (show ys_74 32 = undef from hF_73 32 (by decide)) (?_)))))))))))))))))
            clear hF_73 HGR
            refine SL.un ?_
            refine SL.no true ?_
            refine SL.go ?_
            refine SL.v (.bool true) ?_
            refine SL.v (.bool true) ?_
            refine SL.nil ?_
            refine CW.cond_true (by kernel_rfl) ?_
            refine CW.seq ?_
            refine CW.region ?_
            refine SL.v (.bool false) ?_
            refine SL.nil ?_
            refine CW.ret ?_
            repeat with_reducible first | refine PThen.ret ?_ | refine PBlock.ret ?_
            refine PRet.tmp (t := 2) (v := .bool false) rfl rfl (by kernel_rfl) ?_
            have ho_ := hord i (by omega) (by omega)
            unfold ordLe at ho_
            exact absurd (by first | exact .inl (by omega) | exact .inr ⟨by omega, by omega⟩) ho_
        · try rw [hb_68]
          have hqhb_68 := of_decide_eq_false hb_68
          rcases Bool.eq_false_or_eq_true (((ps_47.getD i pl0).x.at_) == ((ps_47.getD (i - 1) pl0).x.at_)) with hb_76 | hb_76
          · try rw [hb_76]
            have hqhb_76 := eq_of_beq hb_76
            obtain ⟨g_77, ha_78⟩ := hs_57.row_some (i := 0) rfl (show 0 < (ps_47).length by omega)
            have HGR : GrL [fun v _ => v = .int .i64 ((i : Nat) : Int), fun v _ => v = .bool true, fun v _ => v = .bool true, fun v _ => v = .slice a_45 ((ps_47).length) c_46, fun v _ => v = .int .i64 ((i : Nat) : Int), fun v _ => v = .pointer (some ⟨g_77, i * 10, none⟩), fun v _ => v = .pointer (some ⟨g_77, i * 10, none⟩), fun v _ => v = .pointer (some ⟨g_77, i * 10, none⟩), fun v _ => v = .int .i64 ((ps_47.getD i pl0).x.at_), fun v _ => v = .slice a_45 ((ps_47).length) c_46, fun v _ => v = .int .i64 ((i : Nat) : Int), fun v _ => v = .int .i64 ((i - 1 : Nat) : Int), fun v _ => v = .pointer (some ⟨g_77, (i - 1) * 10, none⟩), fun v _ => v = .pointer (some ⟨g_77, (i - 1) * 10, none⟩), fun v _ => v = .pointer (some ⟨g_77, (i - 1) * 10, none⟩), fun v _ => v = .int .i64 ((ps_47.getD (i - 1) pl0).x.at_), fun v _ => v = .bool false, fun v _ => v = .bool false, fun v _ => v = .slice a_45 ((ps_47).length) c_46, fun v _ => v = .int .i64 ((i : Nat) : Int), fun v _ => v = .pointer (some ⟨g_77, i * 10, none⟩), fun v _ => v = .pointer (some ⟨g_77, i * 10, none⟩), fun v _ => v = .pointer (some ⟨g_77, i * 10, none⟩), fun v _ => v = .int .i64 ((ps_47.getD i pl0).x.at_), fun v _ => v = .slice a_45 ((ps_47).length) c_46, fun v _ => v = .int .i64 ((i : Nat) : Int), fun v _ => v = .int .i64 ((i - 1 : Nat) : Int), fun v _ => v = .pointer (some ⟨g_77, (i - 1) * 10, none⟩), fun v _ => v = .pointer (some ⟨g_77, (i - 1) * 10, none⟩), fun v _ => v = .pointer (some ⟨g_77, (i - 1) * 10, none⟩), fun v _ => v = .int .i64 ((ps_47.getD (i - 1) pl0).x.at_), fun v _ => v = .bool true, fun v _ => v = .bool true, fun v _ => v = .slice a_45 ((ps_47).length) c_46, fun v _ => v = .int .i64 ((i : Nat) : Int), fun v _ => v = .pointer (some ⟨g_77, i * 10, none⟩), fun v _ => v = .pointer (some ⟨g_77, i * 10 + 9, none⟩), fun v _ => v = .int .i64 (((ps_47.getD i pl0).n : Nat) : Int), fun v _ => v = .slice a_45 ((ps_47).length) c_46, fun v _ => v = .int .i64 ((i : Nat) : Int), fun v _ => v = .int .i64 ((i - 1 : Nat) : Int), fun v _ => v = .pointer (some ⟨g_77, (i - 1) * 10, none⟩), fun v _ => v = .pointer (some ⟨g_77, (i - 1) * 10 + 9, none⟩), fun v _ => v = .int .i64 (((ps_47.getD (i - 1) pl0).n : Nat) : Int)] := ⟨fun _ _ _ _ h => h, ⟨fun _ _ _ _ h => h, ⟨fun _ _ _ _ h => h, ⟨fun _ _ _ _ h => h, ⟨fun _ _ _ _ h => h, ⟨fun _ _ _ _ h => h, ⟨fun _ _ _ _ h => h, ⟨fun _ _ _ _ h => h, ⟨fun _ _ _ _ h => h, ⟨fun _ _ _ _ h => h, ⟨fun _ _ _ _ h => h, ⟨fun _ _ _ _ h => h, ⟨fun _ _ _ _ h => h, ⟨fun _ _ _ _ h => h, ⟨fun _ _ _ _ h => h, ⟨fun _ _ _ _ h => h, ⟨fun _ _ _ _ h => h, ⟨fun _ _ _ _ h => h, ⟨fun _ _ _ _ h => h, ⟨fun _ _ _ _ h => h, ⟨fun _ _ _ _ h => h, ⟨fun _ _ _ _ h => h, ⟨fun _ _ _ _ h => h, ⟨fun _ _ _ _ h => h, ⟨fun _ _ _ _ h => h, ⟨fun _ _ _ _ h => h, ⟨fun _ _ _ _ h => h, ⟨fun _ _ _ _ h => h, ⟨fun _ _ _ _ h => h, ⟨fun _ _ _ _ h => h, ⟨fun _ _ _ _ h => h, ⟨fun _ _ _ _ h => h, ⟨fun _ _ _ _ h => h, ⟨fun _ _ _ _ h => h, ⟨fun _ _ _ _ h => h, ⟨fun _ _ _ _ h => h, ⟨fun _ _ _ _ h => h, ⟨fun _ _ _ _ h => h, ⟨fun _ _ _ _ h => h, ⟨fun _ _ _ _ h => h, ⟨fun _ _ _ _ h => h, ⟨fun _ _ _ _ h => h, ⟨fun _ _ _ _ h => h, ⟨fun _ _ _ _ h => h, trivial⟩⟩⟩⟩⟩⟩⟩⟩⟩⟩⟩⟩⟩⟩⟩⟩⟩⟩⟩⟩⟩⟩⟩⟩⟩⟩⟩⟩⟩⟩⟩⟩⟩⟩⟩⟩⟩⟩⟩⟩⟩⟩⟩⟩
            refine CW.draw 44 (FW [fun v _ => v = .int .i64 ((i : Nat) : Int), fun v _ => v = .bool true, fun v _ => v = .bool true, fun v _ => v = .slice a_45 ((ps_47).length) c_46, fun v _ => v = .int .i64 ((i : Nat) : Int), fun v _ => v = .pointer (some ⟨g_77, i * 10, none⟩), fun v _ => v = .pointer (some ⟨g_77, i * 10, none⟩), fun v _ => v = .pointer (some ⟨g_77, i * 10, none⟩), fun v _ => v = .int .i64 ((ps_47.getD i pl0).x.at_), fun v _ => v = .slice a_45 ((ps_47).length) c_46, fun v _ => v = .int .i64 ((i : Nat) : Int), fun v _ => v = .int .i64 ((i - 1 : Nat) : Int), fun v _ => v = .pointer (some ⟨g_77, (i - 1) * 10, none⟩), fun v _ => v = .pointer (some ⟨g_77, (i - 1) * 10, none⟩), fun v _ => v = .pointer (some ⟨g_77, (i - 1) * 10, none⟩), fun v _ => v = .int .i64 ((ps_47.getD (i - 1) pl0).x.at_), fun v _ => v = .bool false, fun v _ => v = .bool false, fun v _ => v = .slice a_45 ((ps_47).length) c_46, fun v _ => v = .int .i64 ((i : Nat) : Int), fun v _ => v = .pointer (some ⟨g_77, i * 10, none⟩), fun v _ => v = .pointer (some ⟨g_77, i * 10, none⟩), fun v _ => v = .pointer (some ⟨g_77, i * 10, none⟩), fun v _ => v = .int .i64 ((ps_47.getD i pl0).x.at_), fun v _ => v = .slice a_45 ((ps_47).length) c_46, fun v _ => v = .int .i64 ((i : Nat) : Int), fun v _ => v = .int .i64 ((i - 1 : Nat) : Int), fun v _ => v = .pointer (some ⟨g_77, (i - 1) * 10, none⟩), fun v _ => v = .pointer (some ⟨g_77, (i - 1) * 10, none⟩), fun v _ => v = .pointer (some ⟨g_77, (i - 1) * 10, none⟩), fun v _ => v = .int .i64 ((ps_47.getD (i - 1) pl0).x.at_), fun v _ => v = .bool true, fun v _ => v = .bool true, fun v _ => v = .slice a_45 ((ps_47).length) c_46, fun v _ => v = .int .i64 ((i : Nat) : Int), fun v _ => v = .pointer (some ⟨g_77, i * 10, none⟩), fun v _ => v = .pointer (some ⟨g_77, i * 10 + 9, none⟩), fun v _ => v = .int .i64 (((ps_47.getD i pl0).n : Nat) : Int), fun v _ => v = .slice a_45 ((ps_47).length) c_46, fun v _ => v = .int .i64 ((i : Nat) : Int), fun v _ => v = .int .i64 ((i - 1 : Nat) : Int), fun v _ => v = .pointer (some ⟨g_77, (i - 1) * 10, none⟩), fun v _ => v = .pointer (some ⟨g_77, (i - 1) * 10 + 9, none⟩), fun v _ => v = .int .i64 (((ps_47.getD (i - 1) pl0).n : Nat) : Int)]) (fun W => Gr w_56 W) (by kernel_rfl) (by kernel_rfl) (by kernel_rfl) (by kernel_rfl) (by kernel_rfl) (Gr.refl _).drew ?_ ?_
            · refine ⟨?_, ⟨?_, ⟨?_, ⟨?_, ⟨?_, ⟨?_, ⟨?_, ⟨?_, ⟨?_, ⟨?_, ⟨?_, ⟨?_, ⟨?_, ⟨?_, ⟨?_, ⟨?_, ⟨?_, ⟨?_, ⟨?_, ⟨?_, ⟨?_, ⟨?_, ⟨?_, ⟨?_, ⟨?_, ⟨?_, ⟨?_, ⟨?_, ⟨?_, ⟨?_, ⟨?_, ⟨?_, ⟨?_, ⟨?_, ⟨?_, ⟨?_, ⟨?_, ⟨?_, ⟨?_, ⟨?_, ⟨?_, ⟨?_, ⟨?_, ⟨?_, trivial⟩⟩⟩⟩⟩⟩⟩⟩⟩⟩⟩⟩⟩⟩⟩⟩⟩⟩⟩⟩⟩⟩⟩⟩⟩⟩⟩⟩⟩⟩⟩⟩⟩⟩⟩⟩⟩⟩⟩⟩⟩⟩⟩⟩
              · intro L ys W hB hF hP K hK
                show OpE _ _ _ W K
                exact OpE.val (.int .i64 ((i : Nat) : Int)) W (by kernel_rfl) (hK _ W hB rfl (fun _ _ h => h))
              · intro L ys W hB hF hP K hK
                show OpE _ _ _ W K
                exact OpE.known (j := 0) (v := .int .i64 ((i : Nat) : Int)) (hF 0 (hP.1 rfl)) (OpE.val (.bool true) W (run_eqv (by kernel_rfl) (congrArg Value.bool hb_67)) (hK _ W hB rfl (fun _ _ h => h)))
              · intro L ys W hB hF hP K hK
                show OpE _ _ _ W K
                exact OpE.known (j := 1) (v := .bool true) (hF 1 (hP.1 rfl)) (OpE.val (.bool true) W (by kernel_rfl) (hK _ W hB rfl (fun _ _ h => h)))
              · intro L ys W hB hF hP K hK
                refine ⟨56, true, rfl, (show fillE _ 0 ys _ 56 = _ from (hF 2 (hP.1 rfl))), .inl ⟨rfl, ?_⟩⟩
                exact OpE.val (.slice a_45 ((ps_47).length) c_46) W (by kernel_rfl) (hK _ W hB rfl (fun _ _ h => h))
              · intro L ys W hB hF hP K hK
                refine ⟨56, true, rfl, (show fillE _ 0 ys _ 56 = _ from (hF 2 (hP.1 rfl))), .inl ⟨rfl, ?_⟩⟩
                exact OpE.val (.int .i64 ((i : Nat) : Int)) W (by kernel_rfl) (hK _ W hB rfl (fun _ _ h => h))
              · intro L ys W hB hF hP K hK
                refine ⟨56, true, rfl, (show fillE _ 0 ys _ 56 = _ from (hF 2 (hP.2.2.1 rfl))), .inl ⟨rfl, ?_⟩⟩
                exact OpE.known (j := 3) (v := .slice a_45 ((ps_47).length) c_46) (hF 3 (hP.1 rfl)) (OpE.known (j := 4) (v := .int .i64 ((i : Nat) : Int)) (hF 4 (hP.2.1 rfl)) (OpE.val (.pointer (some ⟨g_77, i * 10, none⟩)) W (run_ixR (len := (ps_47).length) (cap := c_46) (q := .i64) (I := ((i : Nat) : Int)) (i := i) (size := 10) ha_78 rfl (by kernel_rfl) (by kernel_rfl) rfl (by kernel_rfl) (by kernel_rfl) (by omega)) (hK _ W hB rfl (fun _ _ h => h))))
              · intro L ys W hB hF hP K hK
                refine ⟨56, true, rfl, (show fillE _ 0 ys _ 56 = _ from (hF 2 (hP.2.1 rfl))), .inl ⟨rfl, ?_⟩⟩
                exact OpE.known (j := 5) (v := .pointer (some ⟨g_77, i * 10, none⟩)) (hF 5 (hP.1 rfl)) (OpE.val (.pointer (some ⟨g_77, i * 10, none⟩)) W (by kernel_rfl) (hK _ W hB rfl (fun _ _ h => h)))
              · intro L ys W hB hF hP K hK
                refine ⟨56, true, rfl, (show fillE _ 0 ys _ 56 = _ from (hF 2 (hP.2.1 rfl))), .inl ⟨rfl, ?_⟩⟩
                exact OpE.known (j := 6) (v := .pointer (some ⟨g_77, i * 10, none⟩)) (hF 6 (hP.1 rfl)) (OpE.val (.pointer (some ⟨g_77, i * 10, none⟩)) W (by kernel_rfl) (hK _ W hB rfl (fun _ _ h => h)))
              · intro L ys W hB hF hP K hK
                refine ⟨56, true, rfl, (show fillE _ 0 ys _ 56 = _ from (hF 2 (hP.2.1 rfl))), .inl ⟨rfl, ?_⟩⟩
                exact OpE.known (j := 7) (v := .pointer (some ⟨g_77, i * 10, none⟩)) (hF 7 (hP.1 rfl)) (OpE.load (g := g_77) (off := i * 10) (v := .int .i64 ((ps_47.getD i pl0).x.at_)) rfl (by kernel_rfl) ((hs_57.grow hB).row_blk (i := 0) ha_78 rfl) (ldV_one (by kernel_rfl) (by kernel_rfl) ((hs_57.grow hB).row_one (i := 0) ha_78 rfl (pcells_get (i := i) (j := 0) (by omega) rfl))) (hK _ W hB rfl (fun _ _ h => h)))
              · intro L ys W hB hF hP K hK
                refine ⟨56, true, rfl, (show fillE _ 0 ys _ 56 = _ from (hF 2 (hP.1 rfl))), .inl ⟨rfl, ?_⟩⟩
                exact OpE.val (.slice a_45 ((ps_47).length) c_46) W (by kernel_rfl) (hK _ W hB rfl (fun _ _ h => h))
              · intro L ys W hB hF hP K hK
                refine ⟨56, true, rfl, (show fillE _ 0 ys _ 56 = _ from (hF 2 (hP.1 rfl))), .inl ⟨rfl, ?_⟩⟩
                exact OpE.val (.int .i64 ((i : Nat) : Int)) W (by kernel_rfl) (hK _ W hB rfl (fun _ _ h => h))
              · intro L ys W hB hF hP K hK
                refine ⟨56, true, rfl, (show fillE _ 0 ys _ 56 = _ from (hF 2 (hP.2.1 rfl))), .inl ⟨rfl, ?_⟩⟩
                exact OpE.known (j := 10) (v := .int .i64 ((i : Nat) : Int)) (hF 10 (hP.1 rfl)) (OpE.val (.int .i64 ((i - 1 : Nat) : Int)) W (by have hw : IntKind.i64.wrap (((i : Nat) : Int) - 1) = ((i - 1 : Nat) : Int) := (IntWalk.i64_in _ (by omega)).trans (by omega); exact run_eqv (by kernel_rfl) (congrArg (fun z => Value.int .i64 z) hw)) (hK _ W hB rfl (fun _ _ h => h)))
              · intro L ys W hB hF hP K hK
                refine ⟨56, true, rfl, (show fillE _ 0 ys _ 56 = _ from (hF 2 (hP.2.2.1 rfl))), .inl ⟨rfl, ?_⟩⟩
                exact OpE.known (j := 9) (v := .slice a_45 ((ps_47).length) c_46) (hF 9 (hP.1 rfl)) (OpE.known (j := 11) (v := .int .i64 ((i - 1 : Nat) : Int)) (hF 11 (hP.2.1 rfl)) (OpE.val (.pointer (some ⟨g_77, (i - 1) * 10, none⟩)) W (run_ixR (len := (ps_47).length) (cap := c_46) (q := .i64) (I := ((i - 1 : Nat) : Int)) (i := i - 1) (size := 10) ha_78 rfl (by kernel_rfl) (by kernel_rfl) rfl (by kernel_rfl) (by kernel_rfl) (by omega)) (hK _ W hB rfl (fun _ _ h => h))))
              · intro L ys W hB hF hP K hK
                refine ⟨56, true, rfl, (show fillE _ 0 ys _ 56 = _ from (hF 2 (hP.2.1 rfl))), .inl ⟨rfl, ?_⟩⟩
                exact OpE.known (j := 12) (v := .pointer (some ⟨g_77, (i - 1) * 10, none⟩)) (hF 12 (hP.1 rfl)) (OpE.val (.pointer (some ⟨g_77, (i - 1) * 10, none⟩)) W (by kernel_rfl) (hK _ W hB rfl (fun _ _ h => h)))
              · intro L ys W hB hF hP K hK
                refine ⟨56, true, rfl, (show fillE _ 0 ys _ 56 = _ from (hF 2 (hP.2.1 rfl))), .inl ⟨rfl, ?_⟩⟩
                exact OpE.known (j := 13) (v := .pointer (some ⟨g_77, (i - 1) * 10, none⟩)) (hF 13 (hP.1 rfl)) (OpE.val (.pointer (some ⟨g_77, (i - 1) * 10, none⟩)) W (by kernel_rfl) (hK _ W hB rfl (fun _ _ h => h)))
              · intro L ys W hB hF hP K hK
                refine ⟨56, true, rfl, (show fillE _ 0 ys _ 56 = _ from (hF 2 (hP.2.1 rfl))), .inl ⟨rfl, ?_⟩⟩
                exact OpE.known (j := 14) (v := .pointer (some ⟨g_77, (i - 1) * 10, none⟩)) (hF 14 (hP.1 rfl)) (OpE.load (g := g_77) (off := (i - 1) * 10) (v := .int .i64 ((ps_47.getD (i - 1) pl0).x.at_)) rfl (by kernel_rfl) ((hs_57.grow hB).row_blk (i := 0) ha_78 rfl) (ldV_one (by kernel_rfl) (by kernel_rfl) ((hs_57.grow hB).row_one (i := 0) ha_78 rfl (pcells_get (i := i - 1) (j := 0) (by omega) rfl))) (hK _ W hB rfl (fun _ _ h => h)))
              · intro L ys W hB hF hP K hK
                refine ⟨56, true, rfl, (show fillE _ 0 ys _ 56 = _ from (hF 2 (hP.2.2.1 rfl))), .inl ⟨rfl, ?_⟩⟩
                exact OpE.known (j := 8) (v := .int .i64 ((ps_47.getD i pl0).x.at_)) (hF 8 (hP.1 rfl)) (OpE.known (j := 15) (v := .int .i64 ((ps_47.getD (i - 1) pl0).x.at_)) (hF 15 (hP.2.1 rfl)) (OpE.val (.bool false) W (run_eqv (by kernel_rfl) (congrArg Value.bool hb_68)) (hK _ W hB rfl (fun _ _ h => h))))
              · intro L ys W hB hF hP K hK
                refine ⟨56, true, rfl, (show fillE _ 0 ys _ 56 = _ from (hF 2 (hP.2.2.1 rfl))), .inl ⟨rfl, ?_⟩⟩
                exact OpE.known (j := 16) (v := .bool false) (hF 16 (hP.1 rfl)) (OpE.val (.bool false) W (by kernel_rfl) (hK _ W hB rfl (fun _ _ h => h)))
              · intro L ys W hB hF hP K hK
                refine ⟨71, false, rfl, (show fillE _ 0 ys _ 71 = _ from (hF 17 (hP.1 rfl))), .inl ⟨rfl, ?_⟩⟩
                exact OpE.val (.slice a_45 ((ps_47).length) c_46) W (by kernel_rfl) (hK _ W hB rfl (fun _ _ h => h))
              · intro L ys W hB hF hP K hK
                refine ⟨71, false, rfl, (show fillE _ 0 ys _ 71 = _ from (hF 17 (hP.1 rfl))), .inl ⟨rfl, ?_⟩⟩
                exact OpE.val (.int .i64 ((i : Nat) : Int)) W (by kernel_rfl) (hK _ W hB rfl (fun _ _ h => h))
              · intro L ys W hB hF hP K hK
                refine ⟨71, false, rfl, (show fillE _ 0 ys _ 71 = _ from (hF 17 (hP.2.2.1 rfl))), .inl ⟨rfl, ?_⟩⟩
                exact OpE.known (j := 18) (v := .slice a_45 ((ps_47).length) c_46) (hF 18 (hP.1 rfl)) (OpE.known (j := 19) (v := .int .i64 ((i : Nat) : Int)) (hF 19 (hP.2.1 rfl)) (OpE.val (.pointer (some ⟨g_77, i * 10, none⟩)) W (run_ixR (len := (ps_47).length) (cap := c_46) (q := .i64) (I := ((i : Nat) : Int)) (i := i) (size := 10) ha_78 rfl (by kernel_rfl) (by kernel_rfl) rfl (by kernel_rfl) (by kernel_rfl) (by omega)) (hK _ W hB rfl (fun _ _ h => h))))
              · intro L ys W hB hF hP K hK
                refine ⟨71, false, rfl, (show fillE _ 0 ys _ 71 = _ from (hF 17 (hP.2.1 rfl))), .inl ⟨rfl, ?_⟩⟩
                exact OpE.known (j := 20) (v := .pointer (some ⟨g_77, i * 10, none⟩)) (hF 20 (hP.1 rfl)) (OpE.val (.pointer (some ⟨g_77, i * 10, none⟩)) W (by kernel_rfl) (hK _ W hB rfl (fun _ _ h => h)))
              · intro L ys W hB hF hP K hK
                refine ⟨71, false, rfl, (show fillE _ 0 ys _ 71 = _ from (hF 17 (hP.2.1 rfl))), .inl ⟨rfl, ?_⟩⟩
                exact OpE.known (j := 21) (v := .pointer (some ⟨g_77, i * 10, none⟩)) (hF 21 (hP.1 rfl)) (OpE.val (.pointer (some ⟨g_77, i * 10, none⟩)) W (by kernel_rfl) (hK _ W hB rfl (fun _ _ h => h)))
              · intro L ys W hB hF hP K hK
                refine ⟨71, false, rfl, (show fillE _ 0 ys _ 71 = _ from (hF 17 (hP.2.1 rfl))), .inl ⟨rfl, ?_⟩⟩
                exact OpE.known (j := 22) (v := .pointer (some ⟨g_77, i * 10, none⟩)) (hF 22 (hP.1 rfl)) (OpE.load (g := g_77) (off := i * 10) (v := .int .i64 ((ps_47.getD i pl0).x.at_)) rfl (by kernel_rfl) ((hs_57.grow hB).row_blk (i := 0) ha_78 rfl) (ldV_one (by kernel_rfl) (by kernel_rfl) ((hs_57.grow hB).row_one (i := 0) ha_78 rfl (pcells_get (i := i) (j := 0) (by omega) rfl))) (hK _ W hB rfl (fun _ _ h => h)))
              · intro L ys W hB hF hP K hK
                refine ⟨71, false, rfl, (show fillE _ 0 ys _ 71 = _ from (hF 17 (hP.1 rfl))), .inl ⟨rfl, ?_⟩⟩
                exact OpE.val (.slice a_45 ((ps_47).length) c_46) W (by kernel_rfl) (hK _ W hB rfl (fun _ _ h => h))
              · intro L ys W hB hF hP K hK
                refine ⟨71, false, rfl, (show fillE _ 0 ys _ 71 = _ from (hF 17 (hP.1 rfl))), .inl ⟨rfl, ?_⟩⟩
                exact OpE.val (.int .i64 ((i : Nat) : Int)) W (by kernel_rfl) (hK _ W hB rfl (fun _ _ h => h))
              · intro L ys W hB hF hP K hK
                refine ⟨71, false, rfl, (show fillE _ 0 ys _ 71 = _ from (hF 17 (hP.2.1 rfl))), .inl ⟨rfl, ?_⟩⟩
                exact OpE.known (j := 25) (v := .int .i64 ((i : Nat) : Int)) (hF 25 (hP.1 rfl)) (OpE.val (.int .i64 ((i - 1 : Nat) : Int)) W (by have hw : IntKind.i64.wrap (((i : Nat) : Int) - 1) = ((i - 1 : Nat) : Int) := (IntWalk.i64_in _ (by omega)).trans (by omega); exact run_eqv (by kernel_rfl) (congrArg (fun z => Value.int .i64 z) hw)) (hK _ W hB rfl (fun _ _ h => h)))
              · intro L ys W hB hF hP K hK
                refine ⟨71, false, rfl, (show fillE _ 0 ys _ 71 = _ from (hF 17 (hP.2.2.1 rfl))), .inl ⟨rfl, ?_⟩⟩
                exact OpE.known (j := 24) (v := .slice a_45 ((ps_47).length) c_46) (hF 24 (hP.1 rfl)) (OpE.known (j := 26) (v := .int .i64 ((i - 1 : Nat) : Int)) (hF 26 (hP.2.1 rfl)) (OpE.val (.pointer (some ⟨g_77, (i - 1) * 10, none⟩)) W (run_ixR (len := (ps_47).length) (cap := c_46) (q := .i64) (I := ((i - 1 : Nat) : Int)) (i := i - 1) (size := 10) ha_78 rfl (by kernel_rfl) (by kernel_rfl) rfl (by kernel_rfl) (by kernel_rfl) (by omega)) (hK _ W hB rfl (fun _ _ h => h))))
              · intro L ys W hB hF hP K hK
                refine ⟨71, false, rfl, (show fillE _ 0 ys _ 71 = _ from (hF 17 (hP.2.1 rfl))), .inl ⟨rfl, ?_⟩⟩
                exact OpE.known (j := 27) (v := .pointer (some ⟨g_77, (i - 1) * 10, none⟩)) (hF 27 (hP.1 rfl)) (OpE.val (.pointer (some ⟨g_77, (i - 1) * 10, none⟩)) W (by kernel_rfl) (hK _ W hB rfl (fun _ _ h => h)))
              · intro L ys W hB hF hP K hK
                refine ⟨71, false, rfl, (show fillE _ 0 ys _ 71 = _ from (hF 17 (hP.2.1 rfl))), .inl ⟨rfl, ?_⟩⟩
                exact OpE.known (j := 28) (v := .pointer (some ⟨g_77, (i - 1) * 10, none⟩)) (hF 28 (hP.1 rfl)) (OpE.val (.pointer (some ⟨g_77, (i - 1) * 10, none⟩)) W (by kernel_rfl) (hK _ W hB rfl (fun _ _ h => h)))
              · intro L ys W hB hF hP K hK
                refine ⟨71, false, rfl, (show fillE _ 0 ys _ 71 = _ from (hF 17 (hP.2.1 rfl))), .inl ⟨rfl, ?_⟩⟩
                exact OpE.known (j := 29) (v := .pointer (some ⟨g_77, (i - 1) * 10, none⟩)) (hF 29 (hP.1 rfl)) (OpE.load (g := g_77) (off := (i - 1) * 10) (v := .int .i64 ((ps_47.getD (i - 1) pl0).x.at_)) rfl (by kernel_rfl) ((hs_57.grow hB).row_blk (i := 0) ha_78 rfl) (ldV_one (by kernel_rfl) (by kernel_rfl) ((hs_57.grow hB).row_one (i := 0) ha_78 rfl (pcells_get (i := i - 1) (j := 0) (by omega) rfl))) (hK _ W hB rfl (fun _ _ h => h)))
              · intro L ys W hB hF hP K hK
                refine ⟨71, false, rfl, (show fillE _ 0 ys _ 71 = _ from (hF 17 (hP.2.2.1 rfl))), .inl ⟨rfl, ?_⟩⟩
                exact OpE.known (j := 23) (v := .int .i64 ((ps_47.getD i pl0).x.at_)) (hF 23 (hP.1 rfl)) (OpE.known (j := 30) (v := .int .i64 ((ps_47.getD (i - 1) pl0).x.at_)) (hF 30 (hP.2.1 rfl)) (OpE.val (.bool true) W (run_eqv (by kernel_rfl) (congrArg Value.bool hb_76)) (hK _ W hB rfl (fun _ _ h => h))))
              · intro L ys W hB hF hP K hK
                refine ⟨71, false, rfl, (show fillE _ 0 ys _ 71 = _ from (hF 17 (hP.2.2.1 rfl))), .inl ⟨rfl, ?_⟩⟩
                exact OpE.known (j := 31) (v := .bool true) (hF 31 (hP.1 rfl)) (OpE.val (.bool true) W (by kernel_rfl) (hK _ W hB rfl (fun _ _ h => h)))
              · intro L ys W hB hF hP K hK
                refine ⟨86, true, rfl, (show fillE _ 0 ys _ 86 = _ from (hF 32 (hP.1 rfl))), .inl ⟨rfl, ?_⟩⟩
                exact OpE.val (.slice a_45 ((ps_47).length) c_46) W (by kernel_rfl) (hK _ W hB rfl (fun _ _ h => h))
              · intro L ys W hB hF hP K hK
                refine ⟨86, true, rfl, (show fillE _ 0 ys _ 86 = _ from (hF 32 (hP.1 rfl))), .inl ⟨rfl, ?_⟩⟩
                exact OpE.val (.int .i64 ((i : Nat) : Int)) W (by kernel_rfl) (hK _ W hB rfl (fun _ _ h => h))
              · intro L ys W hB hF hP K hK
                refine ⟨86, true, rfl, (show fillE _ 0 ys _ 86 = _ from (hF 32 (hP.2.2.1 rfl))), .inl ⟨rfl, ?_⟩⟩
                exact OpE.known (j := 33) (v := .slice a_45 ((ps_47).length) c_46) (hF 33 (hP.1 rfl)) (OpE.known (j := 34) (v := .int .i64 ((i : Nat) : Int)) (hF 34 (hP.2.1 rfl)) (OpE.val (.pointer (some ⟨g_77, i * 10, none⟩)) W (run_ixR (len := (ps_47).length) (cap := c_46) (q := .i64) (I := ((i : Nat) : Int)) (i := i) (size := 10) ha_78 rfl (by kernel_rfl) (by kernel_rfl) rfl (by kernel_rfl) (by kernel_rfl) (by omega)) (hK _ W hB rfl (fun _ _ h => h))))
              · intro L ys W hB hF hP K hK
                refine ⟨86, true, rfl, (show fillE _ 0 ys _ 86 = _ from (hF 32 (hP.2.1 rfl))), .inl ⟨rfl, ?_⟩⟩
                exact OpE.known (j := 35) (v := .pointer (some ⟨g_77, i * 10, none⟩)) (hF 35 (hP.1 rfl)) (OpE.val (.pointer (some ⟨g_77, i * 10 + 9, none⟩)) W (by kernel_rfl) (hK _ W hB rfl (fun _ _ h => h)))
              · intro L ys W hB hF hP K hK
                refine ⟨86, true, rfl, (show fillE _ 0 ys _ 86 = _ from (hF 32 (hP.2.1 rfl))), .inl ⟨rfl, ?_⟩⟩
                exact OpE.known (j := 36) (v := .pointer (some ⟨g_77, i * 10 + 9, none⟩)) (hF 36 (hP.1 rfl)) (OpE.load (g := g_77) (off := i * 10 + 9) (v := .int .i64 (((ps_47.getD i pl0).n : Nat) : Int)) rfl (by kernel_rfl) ((hs_57.grow hB).row_blk (i := 0) ha_78 rfl) (ldV_one (by kernel_rfl) (by kernel_rfl) ((hs_57.grow hB).row_one (i := 0) ha_78 rfl (pcells_get (i := i) (j := 9) (by omega) rfl))) (hK _ W hB rfl (fun _ _ h => h)))
              · intro L ys W hB hF hP K hK
                refine ⟨86, true, rfl, (show fillE _ 0 ys _ 86 = _ from (hF 32 (hP.1 rfl))), .inl ⟨rfl, ?_⟩⟩
                exact OpE.val (.slice a_45 ((ps_47).length) c_46) W (by kernel_rfl) (hK _ W hB rfl (fun _ _ h => h))
              · intro L ys W hB hF hP K hK
                refine ⟨86, true, rfl, (show fillE _ 0 ys _ 86 = _ from (hF 32 (hP.1 rfl))), .inl ⟨rfl, ?_⟩⟩
                exact OpE.val (.int .i64 ((i : Nat) : Int)) W (by kernel_rfl) (hK _ W hB rfl (fun _ _ h => h))
              · intro L ys W hB hF hP K hK
                refine ⟨86, true, rfl, (show fillE _ 0 ys _ 86 = _ from (hF 32 (hP.2.1 rfl))), .inl ⟨rfl, ?_⟩⟩
                exact OpE.known (j := 39) (v := .int .i64 ((i : Nat) : Int)) (hF 39 (hP.1 rfl)) (OpE.val (.int .i64 ((i - 1 : Nat) : Int)) W (by have hw : IntKind.i64.wrap (((i : Nat) : Int) - 1) = ((i - 1 : Nat) : Int) := (IntWalk.i64_in _ (by omega)).trans (by omega); exact run_eqv (by kernel_rfl) (congrArg (fun z => Value.int .i64 z) hw)) (hK _ W hB rfl (fun _ _ h => h)))
              · intro L ys W hB hF hP K hK
                refine ⟨86, true, rfl, (show fillE _ 0 ys _ 86 = _ from (hF 32 (hP.2.2.1 rfl))), .inl ⟨rfl, ?_⟩⟩
                exact OpE.known (j := 38) (v := .slice a_45 ((ps_47).length) c_46) (hF 38 (hP.1 rfl)) (OpE.known (j := 40) (v := .int .i64 ((i - 1 : Nat) : Int)) (hF 40 (hP.2.1 rfl)) (OpE.val (.pointer (some ⟨g_77, (i - 1) * 10, none⟩)) W (run_ixR (len := (ps_47).length) (cap := c_46) (q := .i64) (I := ((i - 1 : Nat) : Int)) (i := i - 1) (size := 10) ha_78 rfl (by kernel_rfl) (by kernel_rfl) rfl (by kernel_rfl) (by kernel_rfl) (by omega)) (hK _ W hB rfl (fun _ _ h => h))))
              · intro L ys W hB hF hP K hK
                refine ⟨86, true, rfl, (show fillE _ 0 ys _ 86 = _ from (hF 32 (hP.2.1 rfl))), .inl ⟨rfl, ?_⟩⟩
                exact OpE.known (j := 41) (v := .pointer (some ⟨g_77, (i - 1) * 10, none⟩)) (hF 41 (hP.1 rfl)) (OpE.val (.pointer (some ⟨g_77, (i - 1) * 10 + 9, none⟩)) W (by kernel_rfl) (hK _ W hB rfl (fun _ _ h => h)))
              · intro L ys W hB hF hP K hK
                refine ⟨86, true, rfl, (show fillE _ 0 ys _ 86 = _ from (hF 32 (hP.2.1 rfl))), .inl ⟨rfl, ?_⟩⟩
                exact OpE.known (j := 42) (v := .pointer (some ⟨g_77, (i - 1) * 10 + 9, none⟩)) (hF 42 (hP.1 rfl)) (OpE.load (g := g_77) (off := (i - 1) * 10 + 9) (v := .int .i64 (((ps_47.getD (i - 1) pl0).n : Nat) : Int)) rfl (by kernel_rfl) ((hs_57.grow hB).row_blk (i := 0) ha_78 rfl) (ldV_one (by kernel_rfl) (by kernel_rfl) ((hs_57.grow hB).row_one (i := 0) ha_78 rfl (pcells_get (i := i - 1) (j := 9) (by omega) rfl))) (hK _ W hB rfl (fun _ _ h => h)))
            · intro ys_82 w_79 hs_80 hF_81
              have hg_83 := hs_80
              have hs_80 : SH [] w_40 w_79 [rowH 39 10 a_45 (ps_47).length c_46 (pcells ps_47)] := hs_57.grow hg_83
              refine SL.knownY (j := 2) (v := .bool true) (show ys_82 2 = .bool true from hF_81 2 (by decide)) (SL.knownY (j := 3) (v := .slice a_45 ((ps_47).length) c_46) (show ys_82 3 = .slice a_45 ((ps_47).length) c_46 from hF_81 3 (by decide)) (SL.knownY (j := 4) (v := .int .i64 ((i : Nat) : Int)) (show ys_82 4 = .int .i64 ((i : Nat) : Int) from hF_81 4 (by decide)) (SL.knownY (j := 5) (v := .pointer (some ⟨g_77, i * 10, none⟩)) (show ys_82 5 = .pointer (some ⟨g_77, i * 10, none⟩) from hF_81 5 (by decide)) (SL.knownY (j := 6) (v := .pointer (some ⟨g_77, i * 10, none⟩)) (show ys_82 6 = .pointer (some ⟨g_77, i * 10, none⟩) from hF_81 6 (by decide)) (SL.knownY (j := 7) (v := .pointer (some ⟨g_77, i * 10, none⟩)) (show ys_82 7 = .pointer (some ⟨g_77, i * 10, none⟩) from hF_81 7 (by decide)) (SL.knownY (j := 8) (v := .int .i64 ((ps_47.getD i pl0).x.at_)) (show ys_82 8 = .int .i64 ((ps_47.getD i pl0).x.at_) from hF_81 8 (by decide)) (SL.knownY (j := 9) (v := .slice a_45 ((ps_47).length) c_46) (show ys_82 9 = .slice a_45 ((ps_47).length) c_46 from hF_81 9 (by decide)) (SL.knownY (j := 10) (v := .int .i64 ((i : Nat) : Int)) (show ys_82 10 = .int .i64 ((i : Nat) : Int) from hF_81 10 (by decide)) (SL.knownY (j := 11) (v := .int .i64 ((i - 1 : Nat) : Int)) (show ys_82 11 = .int .i64 ((i - 1 : Nat) : Int) from hF_81 11 (by decide)) (SL.knownY (j := 12) (v := .pointer (some ⟨g_77, (i - 1) * 10, none⟩)) (show ys_82 12 = .pointer (some ⟨g_77, (i - 1) * 10, none⟩) from hF_81 12 (by decide)) (SL.knownY (j := 13) (v := .pointer (some ⟨g_77, (i - 1) * 10, none⟩)) (show ys_82 13 = .pointer (some ⟨g_77, (i - 1) * 10, none⟩) from hF_81 13 (by decide)) (SL.knownY (j := 14) (v := .pointer (some ⟨g_77, (i - 1) * 10, none⟩)) (show ys_82 14 = .pointer (some ⟨g_77, (i - 1) * 10, none⟩) from hF_81 14 (by decide)) (SL.knownY (j := 15) (v := .int .i64 ((ps_47.getD (i - 1) pl0).x.at_)) (show ys_82 15 = .int .i64 ((ps_47.getD (i - 1) pl0).x.at_) from hF_81 15 (by decide)) (SL.knownY (j := 16) (v := .bool false) (show ys_82 16 = .bool false from hF_81 16 (by decide)) (SL.knownY (j := 17) (v := .bool false) (show ys_82 17 = .bool false from hF_81 17 (by decide)) (SL.knownY (j := 18) (v := .slice a_45 ((ps_47).length) c_46) (show ys_82 18 = .slice a_45 ((ps_47).length) c_46 from hF_81 18 (by decide)) (SL.knownY (j := 19) (v := .int .i64 ((i : Nat) : Int)) (show ys_82 19 = .int .i64 ((i : Nat) : Int) from hF_81 19 (by decide)) (SL.knownY (j := 20) (v := .pointer (some ⟨g_77, i * 10, none⟩)) (show ys_82 20 = .pointer (some ⟨g_77, i * 10, none⟩) from hF_81 20 (by decide)) (SL.knownY (j := 21) (v := .pointer (some ⟨g_77, i * 10, none⟩)) (show ys_82 21 = .pointer (some ⟨g_77, i * 10, none⟩) from hF_81 21 (by decide)) (SL.knownY (j := 22) (v := .pointer (some ⟨g_77, i * 10, none⟩)) (show ys_82 22 = .pointer (some ⟨g_77, i * 10, none⟩) from hF_81 22 (by decide)) (SL.knownY (j := 23) (v := .int .i64 ((ps_47.getD i pl0).x.at_)) (show ys_82 23 = .int .i64 ((ps_47.getD i pl0).x.at_) from hF_81 23 (by decide)) (SL.knownY (j := 24) (v := .slice a_45 ((ps_47).length) c_46) (show ys_82 24 = .slice a_45 ((ps_47).length) c_46 from hF_81 24 (by decide)) (SL.knownY (j := 25) (v := .int .i64 ((i : Nat) : Int)) (show ys_82 25 = .int .i64 ((i : Nat) : Int) from hF_81 25 (by decide)) (SL.knownY (j := 26) (v := .int .i64 ((i - 1 : Nat) : Int)) (show ys_82 26 = .int .i64 ((i - 1 : Nat) : Int) from hF_81 26 (by decide)) (SL.knownY (j := 27) (v := .pointer (some ⟨g_77, (i - 1) * 10, none⟩)) (show ys_82 27 = .pointer (some ⟨g_77, (i - 1) * 10, none⟩) from hF_81 27 (by decide)) (SL.knownY (j := 28) (v := .pointer (some ⟨g_77, (i - 1) * 10, none⟩)) (show ys_82 28 = .pointer (some ⟨g_77, (i - 1) * 10, none⟩) from hF_81 28 (by decide)) (SL.knownY (j := 29) (v := .pointer (some ⟨g_77, (i - 1) * 10, none⟩)) (show ys_82 29 = .pointer (some ⟨g_77, (i - 1) * 10, none⟩) from hF_81 29 (by decide)) (SL.knownY (j := 30) (v := .int .i64 ((ps_47.getD (i - 1) pl0).x.at_)) (show ys_82 30 = .int .i64 ((ps_47.getD (i - 1) pl0).x.at_) from hF_81 30 (by decide)) (SL.knownY (j := 31) (v := .bool true) (show ys_82 31 = .bool true from hF_81 31 (by decide)) (SL.knownY (j := 32) (v := .bool true) (show ys_82 32 = .bool true from hF_81 32 (by decide)) (SL.knownY (j := 33) (v := .slice a_45 ((ps_47).length) c_46) (show ys_82 33 = .slice a_45 ((ps_47).length) c_46 from hF_81 33 (by decide)) (SL.knownY (j := 34) (v := .int .i64 ((i : Nat) : Int)) (show ys_82 34 = .int .i64 ((i : Nat) : Int) from hF_81 34 (by decide)) (SL.knownY (j := 35) (v := .pointer (some ⟨g_77, i * 10, none⟩)) (show ys_82 35 = .pointer (some ⟨g_77, i * 10, none⟩) from hF_81 35 (by decide)) (SL.knownY (j := 36) (v := .pointer (some ⟨g_77, i * 10 + 9, none⟩)) (show ys_82 36 = .pointer (some ⟨g_77, i * 10 + 9, none⟩) from hF_81 36 (by decide)) (SL.knownY (j := 37) (v := .int .i64 (((ps_47.getD i pl0).n : Nat) : Int)) (show ys_82 37 = .int .i64 (((ps_47.getD i pl0).n : Nat) : Int) from hF_81 37 (by decide)) (SL.knownY (j := 38) (v := .slice a_45 ((ps_47).length) c_46) (show ys_82 38 = .slice a_45 ((ps_47).length) c_46 from hF_81 38 (by decide)) (SL.knownY (j := 39) (v := .int .i64 ((i : Nat) : Int)) (show ys_82 39 = .int .i64 ((i : Nat) : Int) from hF_81 39 (by decide)) (SL.knownY (j := 40) (v := .int .i64 ((i - 1 : Nat) : Int)) (show ys_82 40 = .int .i64 ((i - 1 : Nat) : Int) from hF_81 40 (by decide)) (SL.knownY (j := 41) (v := .pointer (some ⟨g_77, (i - 1) * 10, none⟩)) (show ys_82 41 = .pointer (some ⟨g_77, (i - 1) * 10, none⟩) from hF_81 41 (by decide)) (SL.knownY (j := 42) (v := .pointer (some ⟨g_77, (i - 1) * 10 + 9, none⟩)) (show ys_82 42 = .pointer (some ⟨g_77, (i - 1) * 10 + 9, none⟩) from hF_81 42 (by decide)) (SL.knownY (j := 43) (v := .int .i64 (((ps_47.getD (i - 1) pl0).n : Nat) : Int)) (show ys_82 43 = .int .i64 (((ps_47.getD (i - 1) pl0).n : Nat) : Int) from hF_81 43 (by decide)) (?_))))))))))))))))))))))))))))))))))))))))))
              clear hF_81 HGR
              refine SL.go ?_
              refine SL.v (.bool (decide ((((ps_47.getD i pl0).n : Nat) : Int) < (((ps_47.getD (i - 1) pl0).n : Nat) : Int)))) ?_
              refine SL.go ?_
              refine SL.v (.bool (decide ((((ps_47.getD i pl0).n : Nat) : Int) < (((ps_47.getD (i - 1) pl0).n : Nat) : Int)))) ?_
              refine SL.go ?_
              refine SL.v (.bool (decide ((((ps_47.getD i pl0).n : Nat) : Int) < (((ps_47.getD (i - 1) pl0).n : Nat) : Int)))) ?_
              refine SL.v (.bool (decide ((((ps_47.getD i pl0).n : Nat) : Int) < (((ps_47.getD (i - 1) pl0).n : Nat) : Int)))) ?_
              refine SL.nil ?_
              rcases Bool.eq_false_or_eq_true (decide ((((ps_47.getD i pl0).n : Nat) : Int) < (((ps_47.getD (i - 1) pl0).n : Nat) : Int))) with hb_84 | hb_84
              · try rw [hb_84]
                have hqhb_84 := of_decide_eq_true hb_84
                refine CW.cond_true (by kernel_rfl) ?_
                refine CW.seq ?_
                refine CW.region ?_
                refine SL.v (.bool false) ?_
                refine SL.nil ?_
                refine CW.ret ?_
                repeat with_reducible first | refine PThen.ret ?_ | refine PBlock.ret ?_
                refine PRet.tmp (t := 2) (v := .bool false) rfl rfl (by kernel_rfl) ?_
                have ho_ := hord i (by omega) (by omega)
                unfold ordLe at ho_
                exact absurd (by first | exact .inl (by omega) | exact .inr ⟨by omega, by omega⟩) ho_
              · try rw [hb_84]
                have hqhb_84 := of_decide_eq_false hb_84
                refine CW.cond_false (by kernel_rfl) ?_
                refine CW.skip ?_
                refine CW.region ?_
                refine SL.val (v := .int .i64 ((i + 1 : Nat) : Int)) (w' := w_79) rfl rfl (by have hw : IntKind.i64.wrap (((i : Nat) : Int) + 1) = ((i + 1 : Nat) : Int) := (IntWalk.i64_in _ (by omega)).trans (by omega); exact run_eqv (by kernel_rfl) (congrArg (fun z => Value.int .i64 z) hw)) ?_
                refine SL.v (.int .i64 ((i + 1 : Nat) : Int)) ?_
                refine SL.nil ?_
                exact ⟨_, ⟨i + 1, rfl, hs_80, (by omega), (by kernel_rfl), (by kernel_rfl), (by kernel_rfl), (by kernel_rfl), (by kernel_rfl), (by kernel_rfl)⟩, by omega⟩
          · try rw [hb_76]
            have hqhb_76 := beq_false_ne hb_76
            obtain ⟨g_85, ha_86⟩ := hs_57.row_some (i := 0) rfl (show 0 < (ps_47).length by omega)
            have HGR : GrL [fun v _ => v = .int .i64 ((i : Nat) : Int), fun v _ => v = .bool true, fun v _ => v = .bool true, fun v _ => v = .slice a_45 ((ps_47).length) c_46, fun v _ => v = .int .i64 ((i : Nat) : Int), fun v _ => v = .pointer (some ⟨g_85, i * 10, none⟩), fun v _ => v = .pointer (some ⟨g_85, i * 10, none⟩), fun v _ => v = .pointer (some ⟨g_85, i * 10, none⟩), fun v _ => v = .int .i64 ((ps_47.getD i pl0).x.at_), fun v _ => v = .slice a_45 ((ps_47).length) c_46, fun v _ => v = .int .i64 ((i : Nat) : Int), fun v _ => v = .int .i64 ((i - 1 : Nat) : Int), fun v _ => v = .pointer (some ⟨g_85, (i - 1) * 10, none⟩), fun v _ => v = .pointer (some ⟨g_85, (i - 1) * 10, none⟩), fun v _ => v = .pointer (some ⟨g_85, (i - 1) * 10, none⟩), fun v _ => v = .int .i64 ((ps_47.getD (i - 1) pl0).x.at_), fun v _ => v = .bool false, fun v _ => v = .bool false, fun v _ => v = .slice a_45 ((ps_47).length) c_46, fun v _ => v = .int .i64 ((i : Nat) : Int), fun v _ => v = .pointer (some ⟨g_85, i * 10, none⟩), fun v _ => v = .pointer (some ⟨g_85, i * 10, none⟩), fun v _ => v = .pointer (some ⟨g_85, i * 10, none⟩), fun v _ => v = .int .i64 ((ps_47.getD i pl0).x.at_), fun v _ => v = .slice a_45 ((ps_47).length) c_46, fun v _ => v = .int .i64 ((i : Nat) : Int), fun v _ => v = .int .i64 ((i - 1 : Nat) : Int), fun v _ => v = .pointer (some ⟨g_85, (i - 1) * 10, none⟩), fun v _ => v = .pointer (some ⟨g_85, (i - 1) * 10, none⟩), fun v _ => v = .pointer (some ⟨g_85, (i - 1) * 10, none⟩), fun v _ => v = .int .i64 ((ps_47.getD (i - 1) pl0).x.at_), fun v _ => v = .bool false, fun v _ => v = .bool false, fun _ _ => True, fun _ _ => True, fun _ _ => True, fun _ _ => True, fun _ _ => True, fun _ _ => True, fun _ _ => True, fun _ _ => True, fun _ _ => True, fun _ _ => True, fun _ _ => True] := ⟨fun _ _ _ _ h => h, ⟨fun _ _ _ _ h => h, ⟨fun _ _ _ _ h => h, ⟨fun _ _ _ _ h => h, ⟨fun _ _ _ _ h => h, ⟨fun _ _ _ _ h => h, ⟨fun _ _ _ _ h => h, ⟨fun _ _ _ _ h => h, ⟨fun _ _ _ _ h => h, ⟨fun _ _ _ _ h => h, ⟨fun _ _ _ _ h => h, ⟨fun _ _ _ _ h => h, ⟨fun _ _ _ _ h => h, ⟨fun _ _ _ _ h => h, ⟨fun _ _ _ _ h => h, ⟨fun _ _ _ _ h => h, ⟨fun _ _ _ _ h => h, ⟨fun _ _ _ _ h => h, ⟨fun _ _ _ _ h => h, ⟨fun _ _ _ _ h => h, ⟨fun _ _ _ _ h => h, ⟨fun _ _ _ _ h => h, ⟨fun _ _ _ _ h => h, ⟨fun _ _ _ _ h => h, ⟨fun _ _ _ _ h => h, ⟨fun _ _ _ _ h => h, ⟨fun _ _ _ _ h => h, ⟨fun _ _ _ _ h => h, ⟨fun _ _ _ _ h => h, ⟨fun _ _ _ _ h => h, ⟨fun _ _ _ _ h => h, ⟨fun _ _ _ _ h => h, ⟨fun _ _ _ _ h => h, ⟨fun _ _ _ _ h => h, ⟨fun _ _ _ _ h => h, ⟨fun _ _ _ _ h => h, ⟨fun _ _ _ _ h => h, ⟨fun _ _ _ _ h => h, ⟨fun _ _ _ _ h => h, ⟨fun _ _ _ _ h => h, ⟨fun _ _ _ _ h => h, ⟨fun _ _ _ _ h => h, ⟨fun _ _ _ _ h => h, ⟨fun _ _ _ _ h => h, trivial⟩⟩⟩⟩⟩⟩⟩⟩⟩⟩⟩⟩⟩⟩⟩⟩⟩⟩⟩⟩⟩⟩⟩⟩⟩⟩⟩⟩⟩⟩⟩⟩⟩⟩⟩⟩⟩⟩⟩⟩⟩⟩⟩⟩
            refine CW.draw 44 (FW [fun v _ => v = .int .i64 ((i : Nat) : Int), fun v _ => v = .bool true, fun v _ => v = .bool true, fun v _ => v = .slice a_45 ((ps_47).length) c_46, fun v _ => v = .int .i64 ((i : Nat) : Int), fun v _ => v = .pointer (some ⟨g_85, i * 10, none⟩), fun v _ => v = .pointer (some ⟨g_85, i * 10, none⟩), fun v _ => v = .pointer (some ⟨g_85, i * 10, none⟩), fun v _ => v = .int .i64 ((ps_47.getD i pl0).x.at_), fun v _ => v = .slice a_45 ((ps_47).length) c_46, fun v _ => v = .int .i64 ((i : Nat) : Int), fun v _ => v = .int .i64 ((i - 1 : Nat) : Int), fun v _ => v = .pointer (some ⟨g_85, (i - 1) * 10, none⟩), fun v _ => v = .pointer (some ⟨g_85, (i - 1) * 10, none⟩), fun v _ => v = .pointer (some ⟨g_85, (i - 1) * 10, none⟩), fun v _ => v = .int .i64 ((ps_47.getD (i - 1) pl0).x.at_), fun v _ => v = .bool false, fun v _ => v = .bool false, fun v _ => v = .slice a_45 ((ps_47).length) c_46, fun v _ => v = .int .i64 ((i : Nat) : Int), fun v _ => v = .pointer (some ⟨g_85, i * 10, none⟩), fun v _ => v = .pointer (some ⟨g_85, i * 10, none⟩), fun v _ => v = .pointer (some ⟨g_85, i * 10, none⟩), fun v _ => v = .int .i64 ((ps_47.getD i pl0).x.at_), fun v _ => v = .slice a_45 ((ps_47).length) c_46, fun v _ => v = .int .i64 ((i : Nat) : Int), fun v _ => v = .int .i64 ((i - 1 : Nat) : Int), fun v _ => v = .pointer (some ⟨g_85, (i - 1) * 10, none⟩), fun v _ => v = .pointer (some ⟨g_85, (i - 1) * 10, none⟩), fun v _ => v = .pointer (some ⟨g_85, (i - 1) * 10, none⟩), fun v _ => v = .int .i64 ((ps_47.getD (i - 1) pl0).x.at_), fun v _ => v = .bool false, fun v _ => v = .bool false, fun _ _ => True, fun _ _ => True, fun _ _ => True, fun _ _ => True, fun _ _ => True, fun _ _ => True, fun _ _ => True, fun _ _ => True, fun _ _ => True, fun _ _ => True, fun _ _ => True]) (fun W => Gr w_56 W) (by kernel_rfl) (by kernel_rfl) (by kernel_rfl) (by kernel_rfl) (by kernel_rfl) (Gr.refl _).drew ?_ ?_
            · refine ⟨?_, ⟨?_, ⟨?_, ⟨?_, ⟨?_, ⟨?_, ⟨?_, ⟨?_, ⟨?_, ⟨?_, ⟨?_, ⟨?_, ⟨?_, ⟨?_, ⟨?_, ⟨?_, ⟨?_, ⟨?_, ⟨?_, ⟨?_, ⟨?_, ⟨?_, ⟨?_, ⟨?_, ⟨?_, ⟨?_, ⟨?_, ⟨?_, ⟨?_, ⟨?_, ⟨?_, ⟨?_, ⟨?_, ⟨?_, ⟨?_, ⟨?_, ⟨?_, ⟨?_, ⟨?_, ⟨?_, ⟨?_, ⟨?_, ⟨?_, ⟨?_, trivial⟩⟩⟩⟩⟩⟩⟩⟩⟩⟩⟩⟩⟩⟩⟩⟩⟩⟩⟩⟩⟩⟩⟩⟩⟩⟩⟩⟩⟩⟩⟩⟩⟩⟩⟩⟩⟩⟩⟩⟩⟩⟩⟩⟩
              · intro L ys W hB hF hP K hK
                show OpE _ _ _ W K
                exact OpE.val (.int .i64 ((i : Nat) : Int)) W (by kernel_rfl) (hK _ W hB rfl (fun _ _ h => h))
              · intro L ys W hB hF hP K hK
                show OpE _ _ _ W K
                exact OpE.known (j := 0) (v := .int .i64 ((i : Nat) : Int)) (hF 0 (hP.1 rfl)) (OpE.val (.bool true) W (run_eqv (by kernel_rfl) (congrArg Value.bool hb_67)) (hK _ W hB rfl (fun _ _ h => h)))
              · intro L ys W hB hF hP K hK
                show OpE _ _ _ W K
                exact OpE.known (j := 1) (v := .bool true) (hF 1 (hP.1 rfl)) (OpE.val (.bool true) W (by kernel_rfl) (hK _ W hB rfl (fun _ _ h => h)))
              · intro L ys W hB hF hP K hK
                refine ⟨56, true, rfl, (show fillE _ 0 ys _ 56 = _ from (hF 2 (hP.1 rfl))), .inl ⟨rfl, ?_⟩⟩
                exact OpE.val (.slice a_45 ((ps_47).length) c_46) W (by kernel_rfl) (hK _ W hB rfl (fun _ _ h => h))
              · intro L ys W hB hF hP K hK
                refine ⟨56, true, rfl, (show fillE _ 0 ys _ 56 = _ from (hF 2 (hP.1 rfl))), .inl ⟨rfl, ?_⟩⟩
                exact OpE.val (.int .i64 ((i : Nat) : Int)) W (by kernel_rfl) (hK _ W hB rfl (fun _ _ h => h))
              · intro L ys W hB hF hP K hK
                refine ⟨56, true, rfl, (show fillE _ 0 ys _ 56 = _ from (hF 2 (hP.2.2.1 rfl))), .inl ⟨rfl, ?_⟩⟩
                exact OpE.known (j := 3) (v := .slice a_45 ((ps_47).length) c_46) (hF 3 (hP.1 rfl)) (OpE.known (j := 4) (v := .int .i64 ((i : Nat) : Int)) (hF 4 (hP.2.1 rfl)) (OpE.val (.pointer (some ⟨g_85, i * 10, none⟩)) W (run_ixR (len := (ps_47).length) (cap := c_46) (q := .i64) (I := ((i : Nat) : Int)) (i := i) (size := 10) ha_86 rfl (by kernel_rfl) (by kernel_rfl) rfl (by kernel_rfl) (by kernel_rfl) (by omega)) (hK _ W hB rfl (fun _ _ h => h))))
              · intro L ys W hB hF hP K hK
                refine ⟨56, true, rfl, (show fillE _ 0 ys _ 56 = _ from (hF 2 (hP.2.1 rfl))), .inl ⟨rfl, ?_⟩⟩
                exact OpE.known (j := 5) (v := .pointer (some ⟨g_85, i * 10, none⟩)) (hF 5 (hP.1 rfl)) (OpE.val (.pointer (some ⟨g_85, i * 10, none⟩)) W (by kernel_rfl) (hK _ W hB rfl (fun _ _ h => h)))
              · intro L ys W hB hF hP K hK
                refine ⟨56, true, rfl, (show fillE _ 0 ys _ 56 = _ from (hF 2 (hP.2.1 rfl))), .inl ⟨rfl, ?_⟩⟩
                exact OpE.known (j := 6) (v := .pointer (some ⟨g_85, i * 10, none⟩)) (hF 6 (hP.1 rfl)) (OpE.val (.pointer (some ⟨g_85, i * 10, none⟩)) W (by kernel_rfl) (hK _ W hB rfl (fun _ _ h => h)))
              · intro L ys W hB hF hP K hK
                refine ⟨56, true, rfl, (show fillE _ 0 ys _ 56 = _ from (hF 2 (hP.2.1 rfl))), .inl ⟨rfl, ?_⟩⟩
                exact OpE.known (j := 7) (v := .pointer (some ⟨g_85, i * 10, none⟩)) (hF 7 (hP.1 rfl)) (OpE.load (g := g_85) (off := i * 10) (v := .int .i64 ((ps_47.getD i pl0).x.at_)) rfl (by kernel_rfl) ((hs_57.grow hB).row_blk (i := 0) ha_86 rfl) (ldV_one (by kernel_rfl) (by kernel_rfl) ((hs_57.grow hB).row_one (i := 0) ha_86 rfl (pcells_get (i := i) (j := 0) (by omega) rfl))) (hK _ W hB rfl (fun _ _ h => h)))
              · intro L ys W hB hF hP K hK
                refine ⟨56, true, rfl, (show fillE _ 0 ys _ 56 = _ from (hF 2 (hP.1 rfl))), .inl ⟨rfl, ?_⟩⟩
                exact OpE.val (.slice a_45 ((ps_47).length) c_46) W (by kernel_rfl) (hK _ W hB rfl (fun _ _ h => h))
              · intro L ys W hB hF hP K hK
                refine ⟨56, true, rfl, (show fillE _ 0 ys _ 56 = _ from (hF 2 (hP.1 rfl))), .inl ⟨rfl, ?_⟩⟩
                exact OpE.val (.int .i64 ((i : Nat) : Int)) W (by kernel_rfl) (hK _ W hB rfl (fun _ _ h => h))
              · intro L ys W hB hF hP K hK
                refine ⟨56, true, rfl, (show fillE _ 0 ys _ 56 = _ from (hF 2 (hP.2.1 rfl))), .inl ⟨rfl, ?_⟩⟩
                exact OpE.known (j := 10) (v := .int .i64 ((i : Nat) : Int)) (hF 10 (hP.1 rfl)) (OpE.val (.int .i64 ((i - 1 : Nat) : Int)) W (by have hw : IntKind.i64.wrap (((i : Nat) : Int) - 1) = ((i - 1 : Nat) : Int) := (IntWalk.i64_in _ (by omega)).trans (by omega); exact run_eqv (by kernel_rfl) (congrArg (fun z => Value.int .i64 z) hw)) (hK _ W hB rfl (fun _ _ h => h)))
              · intro L ys W hB hF hP K hK
                refine ⟨56, true, rfl, (show fillE _ 0 ys _ 56 = _ from (hF 2 (hP.2.2.1 rfl))), .inl ⟨rfl, ?_⟩⟩
                exact OpE.known (j := 9) (v := .slice a_45 ((ps_47).length) c_46) (hF 9 (hP.1 rfl)) (OpE.known (j := 11) (v := .int .i64 ((i - 1 : Nat) : Int)) (hF 11 (hP.2.1 rfl)) (OpE.val (.pointer (some ⟨g_85, (i - 1) * 10, none⟩)) W (run_ixR (len := (ps_47).length) (cap := c_46) (q := .i64) (I := ((i - 1 : Nat) : Int)) (i := i - 1) (size := 10) ha_86 rfl (by kernel_rfl) (by kernel_rfl) rfl (by kernel_rfl) (by kernel_rfl) (by omega)) (hK _ W hB rfl (fun _ _ h => h))))
              · intro L ys W hB hF hP K hK
                refine ⟨56, true, rfl, (show fillE _ 0 ys _ 56 = _ from (hF 2 (hP.2.1 rfl))), .inl ⟨rfl, ?_⟩⟩
                exact OpE.known (j := 12) (v := .pointer (some ⟨g_85, (i - 1) * 10, none⟩)) (hF 12 (hP.1 rfl)) (OpE.val (.pointer (some ⟨g_85, (i - 1) * 10, none⟩)) W (by kernel_rfl) (hK _ W hB rfl (fun _ _ h => h)))
              · intro L ys W hB hF hP K hK
                refine ⟨56, true, rfl, (show fillE _ 0 ys _ 56 = _ from (hF 2 (hP.2.1 rfl))), .inl ⟨rfl, ?_⟩⟩
                exact OpE.known (j := 13) (v := .pointer (some ⟨g_85, (i - 1) * 10, none⟩)) (hF 13 (hP.1 rfl)) (OpE.val (.pointer (some ⟨g_85, (i - 1) * 10, none⟩)) W (by kernel_rfl) (hK _ W hB rfl (fun _ _ h => h)))
              · intro L ys W hB hF hP K hK
                refine ⟨56, true, rfl, (show fillE _ 0 ys _ 56 = _ from (hF 2 (hP.2.1 rfl))), .inl ⟨rfl, ?_⟩⟩
                exact OpE.known (j := 14) (v := .pointer (some ⟨g_85, (i - 1) * 10, none⟩)) (hF 14 (hP.1 rfl)) (OpE.load (g := g_85) (off := (i - 1) * 10) (v := .int .i64 ((ps_47.getD (i - 1) pl0).x.at_)) rfl (by kernel_rfl) ((hs_57.grow hB).row_blk (i := 0) ha_86 rfl) (ldV_one (by kernel_rfl) (by kernel_rfl) ((hs_57.grow hB).row_one (i := 0) ha_86 rfl (pcells_get (i := i - 1) (j := 0) (by omega) rfl))) (hK _ W hB rfl (fun _ _ h => h)))
              · intro L ys W hB hF hP K hK
                refine ⟨56, true, rfl, (show fillE _ 0 ys _ 56 = _ from (hF 2 (hP.2.2.1 rfl))), .inl ⟨rfl, ?_⟩⟩
                exact OpE.known (j := 8) (v := .int .i64 ((ps_47.getD i pl0).x.at_)) (hF 8 (hP.1 rfl)) (OpE.known (j := 15) (v := .int .i64 ((ps_47.getD (i - 1) pl0).x.at_)) (hF 15 (hP.2.1 rfl)) (OpE.val (.bool false) W (run_eqv (by kernel_rfl) (congrArg Value.bool hb_68)) (hK _ W hB rfl (fun _ _ h => h))))
              · intro L ys W hB hF hP K hK
                refine ⟨56, true, rfl, (show fillE _ 0 ys _ 56 = _ from (hF 2 (hP.2.2.1 rfl))), .inl ⟨rfl, ?_⟩⟩
                exact OpE.known (j := 16) (v := .bool false) (hF 16 (hP.1 rfl)) (OpE.val (.bool false) W (by kernel_rfl) (hK _ W hB rfl (fun _ _ h => h)))
              · intro L ys W hB hF hP K hK
                refine ⟨71, false, rfl, (show fillE _ 0 ys _ 71 = _ from (hF 17 (hP.1 rfl))), .inl ⟨rfl, ?_⟩⟩
                exact OpE.val (.slice a_45 ((ps_47).length) c_46) W (by kernel_rfl) (hK _ W hB rfl (fun _ _ h => h))
              · intro L ys W hB hF hP K hK
                refine ⟨71, false, rfl, (show fillE _ 0 ys _ 71 = _ from (hF 17 (hP.1 rfl))), .inl ⟨rfl, ?_⟩⟩
                exact OpE.val (.int .i64 ((i : Nat) : Int)) W (by kernel_rfl) (hK _ W hB rfl (fun _ _ h => h))
              · intro L ys W hB hF hP K hK
                refine ⟨71, false, rfl, (show fillE _ 0 ys _ 71 = _ from (hF 17 (hP.2.2.1 rfl))), .inl ⟨rfl, ?_⟩⟩
                exact OpE.known (j := 18) (v := .slice a_45 ((ps_47).length) c_46) (hF 18 (hP.1 rfl)) (OpE.known (j := 19) (v := .int .i64 ((i : Nat) : Int)) (hF 19 (hP.2.1 rfl)) (OpE.val (.pointer (some ⟨g_85, i * 10, none⟩)) W (run_ixR (len := (ps_47).length) (cap := c_46) (q := .i64) (I := ((i : Nat) : Int)) (i := i) (size := 10) ha_86 rfl (by kernel_rfl) (by kernel_rfl) rfl (by kernel_rfl) (by kernel_rfl) (by omega)) (hK _ W hB rfl (fun _ _ h => h))))
              · intro L ys W hB hF hP K hK
                refine ⟨71, false, rfl, (show fillE _ 0 ys _ 71 = _ from (hF 17 (hP.2.1 rfl))), .inl ⟨rfl, ?_⟩⟩
                exact OpE.known (j := 20) (v := .pointer (some ⟨g_85, i * 10, none⟩)) (hF 20 (hP.1 rfl)) (OpE.val (.pointer (some ⟨g_85, i * 10, none⟩)) W (by kernel_rfl) (hK _ W hB rfl (fun _ _ h => h)))
              · intro L ys W hB hF hP K hK
                refine ⟨71, false, rfl, (show fillE _ 0 ys _ 71 = _ from (hF 17 (hP.2.1 rfl))), .inl ⟨rfl, ?_⟩⟩
                exact OpE.known (j := 21) (v := .pointer (some ⟨g_85, i * 10, none⟩)) (hF 21 (hP.1 rfl)) (OpE.val (.pointer (some ⟨g_85, i * 10, none⟩)) W (by kernel_rfl) (hK _ W hB rfl (fun _ _ h => h)))
              · intro L ys W hB hF hP K hK
                refine ⟨71, false, rfl, (show fillE _ 0 ys _ 71 = _ from (hF 17 (hP.2.1 rfl))), .inl ⟨rfl, ?_⟩⟩
                exact OpE.known (j := 22) (v := .pointer (some ⟨g_85, i * 10, none⟩)) (hF 22 (hP.1 rfl)) (OpE.load (g := g_85) (off := i * 10) (v := .int .i64 ((ps_47.getD i pl0).x.at_)) rfl (by kernel_rfl) ((hs_57.grow hB).row_blk (i := 0) ha_86 rfl) (ldV_one (by kernel_rfl) (by kernel_rfl) ((hs_57.grow hB).row_one (i := 0) ha_86 rfl (pcells_get (i := i) (j := 0) (by omega) rfl))) (hK _ W hB rfl (fun _ _ h => h)))
              · intro L ys W hB hF hP K hK
                refine ⟨71, false, rfl, (show fillE _ 0 ys _ 71 = _ from (hF 17 (hP.1 rfl))), .inl ⟨rfl, ?_⟩⟩
                exact OpE.val (.slice a_45 ((ps_47).length) c_46) W (by kernel_rfl) (hK _ W hB rfl (fun _ _ h => h))
              · intro L ys W hB hF hP K hK
                refine ⟨71, false, rfl, (show fillE _ 0 ys _ 71 = _ from (hF 17 (hP.1 rfl))), .inl ⟨rfl, ?_⟩⟩
                exact OpE.val (.int .i64 ((i : Nat) : Int)) W (by kernel_rfl) (hK _ W hB rfl (fun _ _ h => h))
              · intro L ys W hB hF hP K hK
                refine ⟨71, false, rfl, (show fillE _ 0 ys _ 71 = _ from (hF 17 (hP.2.1 rfl))), .inl ⟨rfl, ?_⟩⟩
                exact OpE.known (j := 25) (v := .int .i64 ((i : Nat) : Int)) (hF 25 (hP.1 rfl)) (OpE.val (.int .i64 ((i - 1 : Nat) : Int)) W (by have hw : IntKind.i64.wrap (((i : Nat) : Int) - 1) = ((i - 1 : Nat) : Int) := (IntWalk.i64_in _ (by omega)).trans (by omega); exact run_eqv (by kernel_rfl) (congrArg (fun z => Value.int .i64 z) hw)) (hK _ W hB rfl (fun _ _ h => h)))
              · intro L ys W hB hF hP K hK
                refine ⟨71, false, rfl, (show fillE _ 0 ys _ 71 = _ from (hF 17 (hP.2.2.1 rfl))), .inl ⟨rfl, ?_⟩⟩
                exact OpE.known (j := 24) (v := .slice a_45 ((ps_47).length) c_46) (hF 24 (hP.1 rfl)) (OpE.known (j := 26) (v := .int .i64 ((i - 1 : Nat) : Int)) (hF 26 (hP.2.1 rfl)) (OpE.val (.pointer (some ⟨g_85, (i - 1) * 10, none⟩)) W (run_ixR (len := (ps_47).length) (cap := c_46) (q := .i64) (I := ((i - 1 : Nat) : Int)) (i := i - 1) (size := 10) ha_86 rfl (by kernel_rfl) (by kernel_rfl) rfl (by kernel_rfl) (by kernel_rfl) (by omega)) (hK _ W hB rfl (fun _ _ h => h))))
              · intro L ys W hB hF hP K hK
                refine ⟨71, false, rfl, (show fillE _ 0 ys _ 71 = _ from (hF 17 (hP.2.1 rfl))), .inl ⟨rfl, ?_⟩⟩
                exact OpE.known (j := 27) (v := .pointer (some ⟨g_85, (i - 1) * 10, none⟩)) (hF 27 (hP.1 rfl)) (OpE.val (.pointer (some ⟨g_85, (i - 1) * 10, none⟩)) W (by kernel_rfl) (hK _ W hB rfl (fun _ _ h => h)))
              · intro L ys W hB hF hP K hK
                refine ⟨71, false, rfl, (show fillE _ 0 ys _ 71 = _ from (hF 17 (hP.2.1 rfl))), .inl ⟨rfl, ?_⟩⟩
                exact OpE.known (j := 28) (v := .pointer (some ⟨g_85, (i - 1) * 10, none⟩)) (hF 28 (hP.1 rfl)) (OpE.val (.pointer (some ⟨g_85, (i - 1) * 10, none⟩)) W (by kernel_rfl) (hK _ W hB rfl (fun _ _ h => h)))
              · intro L ys W hB hF hP K hK
                refine ⟨71, false, rfl, (show fillE _ 0 ys _ 71 = _ from (hF 17 (hP.2.1 rfl))), .inl ⟨rfl, ?_⟩⟩
                exact OpE.known (j := 29) (v := .pointer (some ⟨g_85, (i - 1) * 10, none⟩)) (hF 29 (hP.1 rfl)) (OpE.load (g := g_85) (off := (i - 1) * 10) (v := .int .i64 ((ps_47.getD (i - 1) pl0).x.at_)) rfl (by kernel_rfl) ((hs_57.grow hB).row_blk (i := 0) ha_86 rfl) (ldV_one (by kernel_rfl) (by kernel_rfl) ((hs_57.grow hB).row_one (i := 0) ha_86 rfl (pcells_get (i := i - 1) (j := 0) (by omega) rfl))) (hK _ W hB rfl (fun _ _ h => h)))
              · intro L ys W hB hF hP K hK
                refine ⟨71, false, rfl, (show fillE _ 0 ys _ 71 = _ from (hF 17 (hP.2.2.1 rfl))), .inl ⟨rfl, ?_⟩⟩
                exact OpE.known (j := 23) (v := .int .i64 ((ps_47.getD i pl0).x.at_)) (hF 23 (hP.1 rfl)) (OpE.known (j := 30) (v := .int .i64 ((ps_47.getD (i - 1) pl0).x.at_)) (hF 30 (hP.2.1 rfl)) (OpE.val (.bool false) W (run_eqv (by kernel_rfl) (congrArg Value.bool hb_76)) (hK _ W hB rfl (fun _ _ h => h))))
              · intro L ys W hB hF hP K hK
                refine ⟨71, false, rfl, (show fillE _ 0 ys _ 71 = _ from (hF 17 (hP.2.2.1 rfl))), .inl ⟨rfl, ?_⟩⟩
                exact OpE.known (j := 31) (v := .bool false) (hF 31 (hP.1 rfl)) (OpE.val (.bool false) W (by kernel_rfl) (hK _ W hB rfl (fun _ _ h => h)))
              · intro L ys W hB hF hP K hK
                refine ⟨86, false, rfl, (show fillE _ 0 ys _ 86 = _ from (hF 32 (hP.1 rfl))), .inr ⟨rfl, ?_⟩⟩
                exact hK _ W hB trivial (fun _ _ h => h)
              · intro L ys W hB hF hP K hK
                refine ⟨86, false, rfl, (show fillE _ 0 ys _ 86 = _ from (hF 32 (hP.1 rfl))), .inr ⟨rfl, ?_⟩⟩
                exact hK _ W hB trivial (fun _ _ h => h)
              · intro L ys W hB hF hP K hK
                refine ⟨86, false, rfl, (show fillE _ 0 ys _ 86 = _ from (hF 32 (hP.2.2.1 rfl))), .inr ⟨rfl, ?_⟩⟩
                exact hK _ W hB trivial (fun _ _ h => h)
              · intro L ys W hB hF hP K hK
                refine ⟨86, false, rfl, (show fillE _ 0 ys _ 86 = _ from (hF 32 (hP.2.1 rfl))), .inr ⟨rfl, ?_⟩⟩
                exact hK _ W hB trivial (fun _ _ h => h)
              · intro L ys W hB hF hP K hK
                refine ⟨86, false, rfl, (show fillE _ 0 ys _ 86 = _ from (hF 32 (hP.2.1 rfl))), .inr ⟨rfl, ?_⟩⟩
                exact hK _ W hB trivial (fun _ _ h => h)
              · intro L ys W hB hF hP K hK
                refine ⟨86, false, rfl, (show fillE _ 0 ys _ 86 = _ from (hF 32 (hP.1 rfl))), .inr ⟨rfl, ?_⟩⟩
                exact hK _ W hB trivial (fun _ _ h => h)
              · intro L ys W hB hF hP K hK
                refine ⟨86, false, rfl, (show fillE _ 0 ys _ 86 = _ from (hF 32 (hP.1 rfl))), .inr ⟨rfl, ?_⟩⟩
                exact hK _ W hB trivial (fun _ _ h => h)
              · intro L ys W hB hF hP K hK
                refine ⟨86, false, rfl, (show fillE _ 0 ys _ 86 = _ from (hF 32 (hP.2.1 rfl))), .inr ⟨rfl, ?_⟩⟩
                exact hK _ W hB trivial (fun _ _ h => h)
              · intro L ys W hB hF hP K hK
                refine ⟨86, false, rfl, (show fillE _ 0 ys _ 86 = _ from (hF 32 (hP.2.2.1 rfl))), .inr ⟨rfl, ?_⟩⟩
                exact hK _ W hB trivial (fun _ _ h => h)
              · intro L ys W hB hF hP K hK
                refine ⟨86, false, rfl, (show fillE _ 0 ys _ 86 = _ from (hF 32 (hP.2.1 rfl))), .inr ⟨rfl, ?_⟩⟩
                exact hK _ W hB trivial (fun _ _ h => h)
              · intro L ys W hB hF hP K hK
                refine ⟨86, false, rfl, (show fillE _ 0 ys _ 86 = _ from (hF 32 (hP.2.1 rfl))), .inr ⟨rfl, ?_⟩⟩
                exact hK _ W hB trivial (fun _ _ h => h)
            · intro ys_90 w_87 hs_88 hF_89
              have hg_91 := hs_88
              have hs_88 : SH [] w_40 w_87 [rowH 39 10 a_45 (ps_47).length c_46 (pcells ps_47)] := hs_57.grow hg_91
              refine SL.knownY (j := 2) (v := .bool true) (show ys_90 2 = .bool true from hF_89 2 (by decide)) (SL.knownY (j := 3) (v := .slice a_45 ((ps_47).length) c_46) (show ys_90 3 = .slice a_45 ((ps_47).length) c_46 from hF_89 3 (by decide)) (SL.knownY (j := 4) (v := .int .i64 ((i : Nat) : Int)) (show ys_90 4 = .int .i64 ((i : Nat) : Int) from hF_89 4 (by decide)) (SL.knownY (j := 5) (v := .pointer (some ⟨g_85, i * 10, none⟩)) (show ys_90 5 = .pointer (some ⟨g_85, i * 10, none⟩) from hF_89 5 (by decide)) (SL.knownY (j := 6) (v := .pointer (some ⟨g_85, i * 10, none⟩)) (show ys_90 6 = .pointer (some ⟨g_85, i * 10, none⟩) from hF_89 6 (by decide)) (SL.knownY (j := 7) (v := .pointer (some ⟨g_85, i * 10, none⟩)) (show ys_90 7 = .pointer (some ⟨g_85, i * 10, none⟩) from hF_89 7 (by decide)) (SL.knownY (j := 8) (v := .int .i64 ((ps_47.getD i pl0).x.at_)) (show ys_90 8 = .int .i64 ((ps_47.getD i pl0).x.at_) from hF_89 8 (by decide)) (SL.knownY (j := 9) (v := .slice a_45 ((ps_47).length) c_46) (show ys_90 9 = .slice a_45 ((ps_47).length) c_46 from hF_89 9 (by decide)) (SL.knownY (j := 10) (v := .int .i64 ((i : Nat) : Int)) (show ys_90 10 = .int .i64 ((i : Nat) : Int) from hF_89 10 (by decide)) (SL.knownY (j := 11) (v := .int .i64 ((i - 1 : Nat) : Int)) (show ys_90 11 = .int .i64 ((i - 1 : Nat) : Int) from hF_89 11 (by decide)) (SL.knownY (j := 12) (v := .pointer (some ⟨g_85, (i - 1) * 10, none⟩)) (show ys_90 12 = .pointer (some ⟨g_85, (i - 1) * 10, none⟩) from hF_89 12 (by decide)) (SL.knownY (j := 13) (v := .pointer (some ⟨g_85, (i - 1) * 10, none⟩)) (show ys_90 13 = .pointer (some ⟨g_85, (i - 1) * 10, none⟩) from hF_89 13 (by decide)) (SL.knownY (j := 14) (v := .pointer (some ⟨g_85, (i - 1) * 10, none⟩)) (show ys_90 14 = .pointer (some ⟨g_85, (i - 1) * 10, none⟩) from hF_89 14 (by decide)) (SL.knownY (j := 15) (v := .int .i64 ((ps_47.getD (i - 1) pl0).x.at_)) (show ys_90 15 = .int .i64 ((ps_47.getD (i - 1) pl0).x.at_) from hF_89 15 (by decide)) (SL.knownY (j := 16) (v := .bool false) (show ys_90 16 = .bool false from hF_89 16 (by decide)) (SL.knownY (j := 17) (v := .bool false) (show ys_90 17 = .bool false from hF_89 17 (by decide)) (SL.knownY (j := 18) (v := .slice a_45 ((ps_47).length) c_46) (show ys_90 18 = .slice a_45 ((ps_47).length) c_46 from hF_89 18 (by decide)) (SL.knownY (j := 19) (v := .int .i64 ((i : Nat) : Int)) (show ys_90 19 = .int .i64 ((i : Nat) : Int) from hF_89 19 (by decide)) (SL.knownY (j := 20) (v := .pointer (some ⟨g_85, i * 10, none⟩)) (show ys_90 20 = .pointer (some ⟨g_85, i * 10, none⟩) from hF_89 20 (by decide)) (SL.knownY (j := 21) (v := .pointer (some ⟨g_85, i * 10, none⟩)) (show ys_90 21 = .pointer (some ⟨g_85, i * 10, none⟩) from hF_89 21 (by decide)) (SL.knownY (j := 22) (v := .pointer (some ⟨g_85, i * 10, none⟩)) (show ys_90 22 = .pointer (some ⟨g_85, i * 10, none⟩) from hF_89 22 (by decide)) (SL.knownY (j := 23) (v := .int .i64 ((ps_47.getD i pl0).x.at_)) (show ys_90 23 = .int .i64 ((ps_47.getD i pl0).x.at_) from hF_89 23 (by decide)) (SL.knownY (j := 24) (v := .slice a_45 ((ps_47).length) c_46) (show ys_90 24 = .slice a_45 ((ps_47).length) c_46 from hF_89 24 (by decide)) (SL.knownY (j := 25) (v := .int .i64 ((i : Nat) : Int)) (show ys_90 25 = .int .i64 ((i : Nat) : Int) from hF_89 25 (by decide)) (SL.knownY (j := 26) (v := .int .i64 ((i - 1 : Nat) : Int)) (show ys_90 26 = .int .i64 ((i - 1 : Nat) : Int) from hF_89 26 (by decide)) (SL.knownY (j := 27) (v := .pointer (some ⟨g_85, (i - 1) * 10, none⟩)) (show ys_90 27 = .pointer (some ⟨g_85, (i - 1) * 10, none⟩) from hF_89 27 (by decide)) (SL.knownY (j := 28) (v := .pointer (some ⟨g_85, (i - 1) * 10, none⟩)) (show ys_90 28 = .pointer (some ⟨g_85, (i - 1) * 10, none⟩) from hF_89 28 (by decide)) (SL.knownY (j := 29) (v := .pointer (some ⟨g_85, (i - 1) * 10, none⟩)) (show ys_90 29 = .pointer (some ⟨g_85, (i - 1) * 10, none⟩) from hF_89 29 (by decide)) (SL.knownY (j := 30) (v := .int .i64 ((ps_47.getD (i - 1) pl0).x.at_)) (show ys_90 30 = .int .i64 ((ps_47.getD (i - 1) pl0).x.at_) from hF_89 30 (by decide)) (SL.knownY (j := 31) (v := .bool false) (show ys_90 31 = .bool false from hF_89 31 (by decide)) (SL.knownY (j := 32) (v := .bool false) (show ys_90 32 = .bool false from hF_89 32 (by decide)) (?_)))))))))))))))))))))))))))))))
              clear hF_89 HGR
              refine SL.no false ?_
              refine SL.go ?_
              refine SL.v (.bool false) ?_
              refine SL.go ?_
              refine SL.v (.bool false) ?_
              refine SL.v (.bool false) ?_
              refine SL.nil ?_
              refine CW.cond_false (by kernel_rfl) ?_
              refine CW.skip ?_
              refine CW.region ?_
              refine SL.val (v := .int .i64 ((i + 1 : Nat) : Int)) (w' := w_87) rfl rfl (by have hw : IntKind.i64.wrap (((i : Nat) : Int) + 1) = ((i + 1 : Nat) : Int) := (IntWalk.i64_in _ (by omega)).trans (by omega); exact run_eqv (by kernel_rfl) (congrArg (fun z => Value.int .i64 z) hw)) ?_
              refine SL.v (.int .i64 ((i + 1 : Nat) : Int)) ?_
              refine SL.nil ?_
              exact ⟨_, ⟨i + 1, rfl, hs_88, (by omega), (by kernel_rfl), (by kernel_rfl), (by kernel_rfl), (by kernel_rfl), (by kernel_rfl), (by kernel_rfl)⟩, by omega⟩
      · try rw [hb_67]
        have hqhb_67 := of_decide_eq_false hb_67
        have HGR : GrL [fun v _ => v = .int .i64 ((i : Nat) : Int), fun v _ => v = .bool false, fun v _ => v = .bool false, fun v _ => v = undef, fun v _ => v = undef, fun v _ => v = undef, fun v _ => v = undef, fun v _ => v = undef, fun v _ => v = undef, fun v _ => v = undef, fun v _ => v = undef, fun v _ => v = undef, fun v _ => v = undef, fun v _ => v = undef, fun v _ => v = undef, fun v _ => v = undef, fun v _ => v = undef, fun v _ => v = undef, fun v _ => v = undef, fun v _ => v = undef, fun v _ => v = undef, fun v _ => v = undef, fun v _ => v = undef, fun v _ => v = undef, fun v _ => v = undef, fun v _ => v = undef, fun v _ => v = undef, fun v _ => v = undef, fun v _ => v = undef, fun v _ => v = undef, fun v _ => v = undef, fun v _ => v = undef, fun v _ => v = undef, fun v _ => v = undef, fun v _ => v = undef, fun v _ => v = undef, fun v _ => v = undef, fun v _ => v = undef, fun v _ => v = undef, fun v _ => v = undef, fun v _ => v = undef, fun v _ => v = undef, fun v _ => v = undef, fun v _ => v = undef] := ⟨fun _ _ _ _ h => h, ⟨fun _ _ _ _ h => h, ⟨fun _ _ _ _ h => h, ⟨fun _ _ _ _ h => h, ⟨fun _ _ _ _ h => h, ⟨fun _ _ _ _ h => h, ⟨fun _ _ _ _ h => h, ⟨fun _ _ _ _ h => h, ⟨fun _ _ _ _ h => h, ⟨fun _ _ _ _ h => h, ⟨fun _ _ _ _ h => h, ⟨fun _ _ _ _ h => h, ⟨fun _ _ _ _ h => h, ⟨fun _ _ _ _ h => h, ⟨fun _ _ _ _ h => h, ⟨fun _ _ _ _ h => h, ⟨fun _ _ _ _ h => h, ⟨fun _ _ _ _ h => h, ⟨fun _ _ _ _ h => h, ⟨fun _ _ _ _ h => h, ⟨fun _ _ _ _ h => h, ⟨fun _ _ _ _ h => h, ⟨fun _ _ _ _ h => h, ⟨fun _ _ _ _ h => h, ⟨fun _ _ _ _ h => h, ⟨fun _ _ _ _ h => h, ⟨fun _ _ _ _ h => h, ⟨fun _ _ _ _ h => h, ⟨fun _ _ _ _ h => h, ⟨fun _ _ _ _ h => h, ⟨fun _ _ _ _ h => h, ⟨fun _ _ _ _ h => h, ⟨fun _ _ _ _ h => h, ⟨fun _ _ _ _ h => h, ⟨fun _ _ _ _ h => h, ⟨fun _ _ _ _ h => h, ⟨fun _ _ _ _ h => h, ⟨fun _ _ _ _ h => h, ⟨fun _ _ _ _ h => h, ⟨fun _ _ _ _ h => h, ⟨fun _ _ _ _ h => h, ⟨fun _ _ _ _ h => h, ⟨fun _ _ _ _ h => h, ⟨fun _ _ _ _ h => h, trivial⟩⟩⟩⟩⟩⟩⟩⟩⟩⟩⟩⟩⟩⟩⟩⟩⟩⟩⟩⟩⟩⟩⟩⟩⟩⟩⟩⟩⟩⟩⟩⟩⟩⟩⟩⟩⟩⟩⟩⟩⟩⟩⟩⟩
        refine CW.drawV 44 (FW [fun v _ => v = .int .i64 ((i : Nat) : Int), fun v _ => v = .bool false, fun v _ => v = .bool false, fun v _ => v = undef, fun v _ => v = undef, fun v _ => v = undef, fun v _ => v = undef, fun v _ => v = undef, fun v _ => v = undef, fun v _ => v = undef, fun v _ => v = undef, fun v _ => v = undef, fun v _ => v = undef, fun v _ => v = undef, fun v _ => v = undef, fun v _ => v = undef, fun v _ => v = undef, fun v _ => v = undef, fun v _ => v = undef, fun v _ => v = undef, fun v _ => v = undef, fun v _ => v = undef, fun v _ => v = undef, fun v _ => v = undef, fun v _ => v = undef, fun v _ => v = undef, fun v _ => v = undef, fun v _ => v = undef, fun v _ => v = undef, fun v _ => v = undef, fun v _ => v = undef, fun v _ => v = undef, fun v _ => v = undef, fun v _ => v = undef, fun v _ => v = undef, fun v _ => v = undef, fun v _ => v = undef, fun v _ => v = undef, fun v _ => v = undef, fun v _ => v = undef, fun v _ => v = undef, fun v _ => v = undef, fun v _ => v = undef, fun v _ => v = undef]) (fun W => Gr w_56 W) (by kernel_rfl) (by kernel_rfl) (by kernel_rfl) (by kernel_rfl) (by kernel_rfl) (Gr.refl _).drew ?_ ?_
        · refine ⟨?_, ⟨?_, ⟨?_, ⟨?_, ⟨?_, ⟨?_, ⟨?_, ⟨?_, ⟨?_, ⟨?_, ⟨?_, ⟨?_, ⟨?_, ⟨?_, ⟨?_, ⟨?_, ⟨?_, ⟨?_, ⟨?_, ⟨?_, ⟨?_, ⟨?_, ⟨?_, ⟨?_, ⟨?_, ⟨?_, ⟨?_, ⟨?_, ⟨?_, ⟨?_, ⟨?_, ⟨?_, ⟨?_, ⟨?_, ⟨?_, ⟨?_, ⟨?_, ⟨?_, ⟨?_, ⟨?_, ⟨?_, ⟨?_, ⟨?_, ⟨?_, trivial⟩⟩⟩⟩⟩⟩⟩⟩⟩⟩⟩⟩⟩⟩⟩⟩⟩⟩⟩⟩⟩⟩⟩⟩⟩⟩⟩⟩⟩⟩⟩⟩⟩⟩⟩⟩⟩⟩⟩⟩⟩⟩⟩⟩
          · intro L ys W hB hF hP K hK
            refine .inl ?_
            show OpE _ _ _ W K
            exact OpE.val (.int .i64 ((i : Nat) : Int)) W (by kernel_rfl) (hK _ W hB rfl (fun _ _ h => h))
          · intro L ys W hB hF hP K hK
            refine .inl ?_
            show OpE _ _ _ W K
            exact OpE.known (j := 0) (v := .int .i64 ((i : Nat) : Int)) (hF 0 (hP.1 rfl)) (OpE.val (.bool false) W (run_eqv (by kernel_rfl) (congrArg Value.bool hb_67)) (hK _ W hB rfl (fun _ _ h => h)))
          · intro L ys W hB hF hP K hK
            refine .inl ?_
            show OpE _ _ _ W K
            exact OpE.known (j := 1) (v := .bool false) (hF 1 (hP.1 rfl)) (OpE.val (.bool false) W (by kernel_rfl) (hK _ W hB rfl (fun _ _ h => h)))
          · intro L ys W hB hF hP K hK
            refine .inl ⟨56, false, rfl, (show fillE _ 0 ys _ 56 = _ from (hF 2 (hP.1 rfl))), .inr ⟨rfl, ?_⟩⟩
            exact hK _ W hB rfl (fun _ _ h => h)
          · intro L ys W hB hF hP K hK
            refine .inl ⟨56, false, rfl, (show fillE _ 0 ys _ 56 = _ from (hF 2 (hP.1 rfl))), .inr ⟨rfl, ?_⟩⟩
            exact hK _ W hB rfl (fun _ _ h => h)
          · intro L ys W hB hF hP K hK
            refine .inl ⟨56, false, rfl, (show fillE _ 0 ys _ 56 = _ from (hF 2 (hP.2.2.1 rfl))), .inr ⟨rfl, ?_⟩⟩
            exact hK _ W hB rfl (fun _ _ h => h)
          · intro L ys W hB hF hP K hK
            refine .inl ⟨56, false, rfl, (show fillE _ 0 ys _ 56 = _ from (hF 2 (hP.2.1 rfl))), .inr ⟨rfl, ?_⟩⟩
            exact hK _ W hB rfl (fun _ _ h => h)
          · intro L ys W hB hF hP K hK
            refine .inl ⟨56, false, rfl, (show fillE _ 0 ys _ 56 = _ from (hF 2 (hP.2.1 rfl))), .inr ⟨rfl, ?_⟩⟩
            exact hK _ W hB rfl (fun _ _ h => h)
          · intro L ys W hB hF hP K hK
            refine .inl ⟨56, false, rfl, (show fillE _ 0 ys _ 56 = _ from (hF 2 (hP.2.1 rfl))), .inr ⟨rfl, ?_⟩⟩
            exact hK _ W hB rfl (fun _ _ h => h)
          · intro L ys W hB hF hP K hK
            refine .inl ⟨56, false, rfl, (show fillE _ 0 ys _ 56 = _ from (hF 2 (hP.1 rfl))), .inr ⟨rfl, ?_⟩⟩
            exact hK _ W hB rfl (fun _ _ h => h)
          · intro L ys W hB hF hP K hK
            refine .inl ⟨56, false, rfl, (show fillE _ 0 ys _ 56 = _ from (hF 2 (hP.1 rfl))), .inr ⟨rfl, ?_⟩⟩
            exact hK _ W hB rfl (fun _ _ h => h)
          · intro L ys W hB hF hP K hK
            refine .inl ⟨56, false, rfl, (show fillE _ 0 ys _ 56 = _ from (hF 2 (hP.2.1 rfl))), .inr ⟨rfl, ?_⟩⟩
            exact hK _ W hB rfl (fun _ _ h => h)
          · intro L ys W hB hF hP K hK
            refine .inl ⟨56, false, rfl, (show fillE _ 0 ys _ 56 = _ from (hF 2 (hP.2.2.1 rfl))), .inr ⟨rfl, ?_⟩⟩
            exact hK _ W hB rfl (fun _ _ h => h)
          · intro L ys W hB hF hP K hK
            refine .inl ⟨56, false, rfl, (show fillE _ 0 ys _ 56 = _ from (hF 2 (hP.2.1 rfl))), .inr ⟨rfl, ?_⟩⟩
            exact hK _ W hB rfl (fun _ _ h => h)
          · intro L ys W hB hF hP K hK
            refine .inl ⟨56, false, rfl, (show fillE _ 0 ys _ 56 = _ from (hF 2 (hP.2.1 rfl))), .inr ⟨rfl, ?_⟩⟩
            exact hK _ W hB rfl (fun _ _ h => h)
          · intro L ys W hB hF hP K hK
            refine .inl ⟨56, false, rfl, (show fillE _ 0 ys _ 56 = _ from (hF 2 (hP.2.1 rfl))), .inr ⟨rfl, ?_⟩⟩
            exact hK _ W hB rfl (fun _ _ h => h)
          · intro L ys W hB hF hP K hK
            refine .inl ⟨56, false, rfl, (show fillE _ 0 ys _ 56 = _ from (hF 2 (hP.2.2.1 rfl))), .inr ⟨rfl, ?_⟩⟩
            exact hK _ W hB rfl (fun _ _ h => h)
          · intro L ys W hB hF hP K hK
            refine .inl ⟨56, false, rfl, (show fillE _ 0 ys _ 56 = _ from (hF 2 (hP.2.2.1 rfl))), .inr ⟨rfl, ?_⟩⟩
            exact hK _ W hB rfl (fun _ _ h => h)
          · intro L ys W hB hF hP K hK
            exact .inr ⟨17, false, 71, rfl, rfl, (show fillE _ 0 ys _ 71 = undef from (hF 17 (hP.1 rfl))), hK _ W hB rfl (fun _ _ h => h)⟩
          · intro L ys W hB hF hP K hK
            exact .inr ⟨17, false, 71, rfl, rfl, (show fillE _ 0 ys _ 71 = undef from (hF 17 (hP.1 rfl))), hK _ W hB rfl (fun _ _ h => h)⟩
          · intro L ys W hB hF hP K hK
            exact .inr ⟨17, false, 71, rfl, rfl, (show fillE _ 0 ys _ 71 = undef from (hF 17 (hP.2.2.1 rfl))), hK _ W hB rfl (fun _ _ h => h)⟩
          · intro L ys W hB hF hP K hK
            exact .inr ⟨17, false, 71, rfl, rfl, (show fillE _ 0 ys _ 71 = undef from (hF 17 (hP.2.1 rfl))), hK _ W hB rfl (fun _ _ h => h)⟩
          · intro L ys W hB hF hP K hK
            exact .inr ⟨17, false, 71, rfl, rfl, (show fillE _ 0 ys _ 71 = undef from (hF 17 (hP.2.1 rfl))), hK _ W hB rfl (fun _ _ h => h)⟩
          · intro L ys W hB hF hP K hK
            exact .inr ⟨17, false, 71, rfl, rfl, (show fillE _ 0 ys _ 71 = undef from (hF 17 (hP.2.1 rfl))), hK _ W hB rfl (fun _ _ h => h)⟩
          · intro L ys W hB hF hP K hK
            exact .inr ⟨17, false, 71, rfl, rfl, (show fillE _ 0 ys _ 71 = undef from (hF 17 (hP.1 rfl))), hK _ W hB rfl (fun _ _ h => h)⟩
          · intro L ys W hB hF hP K hK
            exact .inr ⟨17, false, 71, rfl, rfl, (show fillE _ 0 ys _ 71 = undef from (hF 17 (hP.1 rfl))), hK _ W hB rfl (fun _ _ h => h)⟩
          · intro L ys W hB hF hP K hK
            exact .inr ⟨17, false, 71, rfl, rfl, (show fillE _ 0 ys _ 71 = undef from (hF 17 (hP.2.1 rfl))), hK _ W hB rfl (fun _ _ h => h)⟩
          · intro L ys W hB hF hP K hK
            exact .inr ⟨17, false, 71, rfl, rfl, (show fillE _ 0 ys _ 71 = undef from (hF 17 (hP.2.2.1 rfl))), hK _ W hB rfl (fun _ _ h => h)⟩
          · intro L ys W hB hF hP K hK
            exact .inr ⟨17, false, 71, rfl, rfl, (show fillE _ 0 ys _ 71 = undef from (hF 17 (hP.2.1 rfl))), hK _ W hB rfl (fun _ _ h => h)⟩
          · intro L ys W hB hF hP K hK
            exact .inr ⟨17, false, 71, rfl, rfl, (show fillE _ 0 ys _ 71 = undef from (hF 17 (hP.2.1 rfl))), hK _ W hB rfl (fun _ _ h => h)⟩
          · intro L ys W hB hF hP K hK
            exact .inr ⟨17, false, 71, rfl, rfl, (show fillE _ 0 ys _ 71 = undef from (hF 17 (hP.2.1 rfl))), hK _ W hB rfl (fun _ _ h => h)⟩
          · intro L ys W hB hF hP K hK
            exact .inr ⟨17, false, 71, rfl, rfl, (show fillE _ 0 ys _ 71 = undef from (hF 17 (hP.2.2.1 rfl))), hK _ W hB rfl (fun _ _ h => h)⟩
          · intro L ys W hB hF hP K hK
            exact .inr ⟨17, false, 71, rfl, rfl, (show fillE _ 0 ys _ 71 = undef from (hF 17 (hP.2.2.1 rfl))), hK _ W hB rfl (fun _ _ h => h)⟩
          · intro L ys W hB hF hP K hK
            exact .inr ⟨32, true, 86, rfl, rfl, (show fillE _ 0 ys _ 86 = undef from (hF 32 (hP.1 rfl))), hK _ W hB rfl (fun _ _ h => h)⟩
          · intro L ys W hB hF hP K hK
            exact .inr ⟨32, true, 86, rfl, rfl, (show fillE _ 0 ys _ 86 = undef from (hF 32 (hP.1 rfl))), hK _ W hB rfl (fun _ _ h => h)⟩
          · intro L ys W hB hF hP K hK
            exact .inr ⟨32, true, 86, rfl, rfl, (show fillE _ 0 ys _ 86 = undef from (hF 32 (hP.2.2.1 rfl))), hK _ W hB rfl (fun _ _ h => h)⟩
          · intro L ys W hB hF hP K hK
            exact .inr ⟨32, true, 86, rfl, rfl, (show fillE _ 0 ys _ 86 = undef from (hF 32 (hP.2.1 rfl))), hK _ W hB rfl (fun _ _ h => h)⟩
          · intro L ys W hB hF hP K hK
            exact .inr ⟨32, true, 86, rfl, rfl, (show fillE _ 0 ys _ 86 = undef from (hF 32 (hP.2.1 rfl))), hK _ W hB rfl (fun _ _ h => h)⟩
          · intro L ys W hB hF hP K hK
            exact .inr ⟨32, true, 86, rfl, rfl, (show fillE _ 0 ys _ 86 = undef from (hF 32 (hP.1 rfl))), hK _ W hB rfl (fun _ _ h => h)⟩
          · intro L ys W hB hF hP K hK
            exact .inr ⟨32, true, 86, rfl, rfl, (show fillE _ 0 ys _ 86 = undef from (hF 32 (hP.1 rfl))), hK _ W hB rfl (fun _ _ h => h)⟩
          · intro L ys W hB hF hP K hK
            exact .inr ⟨32, true, 86, rfl, rfl, (show fillE _ 0 ys _ 86 = undef from (hF 32 (hP.2.1 rfl))), hK _ W hB rfl (fun _ _ h => h)⟩
          · intro L ys W hB hF hP K hK
            exact .inr ⟨32, true, 86, rfl, rfl, (show fillE _ 0 ys _ 86 = undef from (hF 32 (hP.2.2.1 rfl))), hK _ W hB rfl (fun _ _ h => h)⟩
          · intro L ys W hB hF hP K hK
            exact .inr ⟨32, true, 86, rfl, rfl, (show fillE _ 0 ys _ 86 = undef from (hF 32 (hP.2.1 rfl))), hK _ W hB rfl (fun _ _ h => h)⟩
          · intro L ys W hB hF hP K hK
            exact .inr ⟨32, true, 86, rfl, rfl, (show fillE _ 0 ys _ 86 = undef from (hF 32 (hP.2.1 rfl))), hK _ W hB rfl (fun _ _ h => h)⟩
        · intro ys_95 w_92 hs_93 hF_94
          have hg_96 := hs_93
          have hs_93 : SH [] w_40 w_92 [rowH 39 10 a_45 (ps_47).length c_46 (pcells ps_47)] := hs_57.grow hg_96
          refine SL.knownY (j := 2) (v := .bool false) (show ys_95 2 = .bool false from hF_94 2 (by decide)) (SL.knownY (j := 17) (v := undef) (show ys_95 17 = undef from hF_94 17 (by decide)) (SL.knownY (j := 32) (v := undef) (show ys_95 32 = undef from hF_94 32 (by decide)) (?_)))
          clear hF_94 HGR
          refine SL.un ?_
          refine SL.un ?_
          refine SL.no false ?_
          refine SL.v (.bool false) ?_
          refine SL.nil ?_
          refine CW.cond_false (by kernel_rfl) ?_
          refine CW.skip ?_
          refine CW.region ?_
          refine SL.val (v := .int .i64 ((i + 1 : Nat) : Int)) (w' := w_92) rfl rfl (by have hw : IntKind.i64.wrap (((i : Nat) : Int) + 1) = ((i + 1 : Nat) : Int) := (IntWalk.i64_in _ (by omega)).trans (by omega); exact run_eqv (by kernel_rfl) (congrArg (fun z => Value.int .i64 z) hw)) ?_
          refine SL.v (.int .i64 ((i + 1 : Nat) : Int)) ?_
          refine SL.nil ?_
          exact ⟨_, ⟨i + 1, rfl, hs_93, (by omega), (by kernel_rfl), (by kernel_rfl), (by kernel_rfl), (by kernel_rfl), (by kernel_rfl), (by kernel_rfl)⟩, by omega⟩
    · try rw [hb_66]
      have hqhb_66 := of_decide_eq_false hb_66
      refine CW.cond_false (by kernel_rfl) ?_
      refine CW.exit ?_
      repeat with_reducible first | refine PThen.exit ?_ | refine PBlock.out rfl ?_
      with_reducible refine PBlock.here ?_
      repeat with_reducible refine PBlock.normal ?_
      refine CW.seq ?_
      refine CW.seq ?_
      refine CW.region ?_
      refine SL.v (.slice aF ((Ls).length) cF) ?_
      refine SL.val (v := .int .i64 (((Ls).length : Nat) : Int)) (w' := w_56) rfl rfl (by kernel_rfl) ?_
      refine SL.v (.int .i64 0) ?_
      refine SL.nil ?_
      refine CW.block ?_
      refine CW.loopI (fun m_ e9 w9 => ∃ (k : Nat), ∃ (t : Nat), m_ = Ls.length - k ∧ SH [] w_40 w9 [rowH 39 10 a_45 (ps_47).length c_46 (pcells ps_47)] ∧ (k ≤ Ls.length) ∧ (t = ((Ls.take k).map fun e => e.xs.length).sum) ∧ e9 0 = .slice aF ((Ls).length) cF ∧ e9 2 = .bool false ∧ e9 5 = .slice a_45 ((ps_47).length) c_46 ∧ e9 6 = .int .i64 ((t : Nat) : Int) ∧ e9 104 = .int .i64 (((Ls).length : Nat) : Int) ∧ e9 105 = .int .i64 ((k : Nat) : Int)) ⟨_, 0, 0, rfl, hs_57, (Nat.zero_le _), rfl, (by kernel_rfl), (by kernel_rfl), (by kernel_rfl), (by kernel_rfl), (by kernel_rfl), (by kernel_rfl)⟩ ?_
      rintro m_97 e_98 w_99 ⟨k, t, hm_101, hs_100, hk, ht, hv_102, hv_103, hv_104, hv_105, hv_106, hv_107⟩
      obtain ⟨e_108, rfl⟩ : ∃ e_108, e_98 = put1 (put1 (put1 (put1 (put1 (put1 e_108 0 (.slice aF ((Ls).length) cF)) 2 (.bool false)) 5 (.slice a_45 ((ps_47).length) c_46)) 6 (.int .i64 ((t : Nat) : Int))) 104 (.int .i64 (((Ls).length : Nat) : Int))) 105 (.int .i64 ((k : Nat) : Int)) := ⟨e_98, (put_self hv_107).trans (congrArg (fun z => put1 z 105 (.int .i64 ((k : Nat) : Int))) ((put_self hv_106).trans (congrArg (fun z => put1 z 104 (.int .i64 (((Ls).length : Nat) : Int))) ((put_self hv_105).trans (congrArg (fun z => put1 z 6 (.int .i64 ((t : Nat) : Int))) ((put_self hv_104).trans (congrArg (fun z => put1 z 5 (.slice a_45 ((ps_47).length) c_46)) ((put_self hv_103).trans (congrArg (fun z => put1 z 2 (.bool false)) (put_self hv_102))))))))))⟩
      clear hv_102 hv_103 hv_104 hv_105 hv_106 hv_107
      obtain ⟨E, hE⟩ : ∃ E, E = Ls.getD k le0 := ⟨_, rfl⟩
      have hE12 : k < Ls.length → E.xs.length ≤ 12 := fun h => by rw [hE]; exact (hF12 _ (getD_mem h)).1
      have htb9 : t ≤ k * 12 := by have h_ := sum_le 12 (l := (Ls.take k).map fun e => e.xs.length) (fun x hx => by obtain ⟨y, hy, rfl⟩ := List.mem_map.1 hx; exact (hF12 y (List.mem_of_mem_take hy)).1); rw [List.length_map, List.length_take, ← ht] at h_; omega
      refine CW.seq ?_
      refine CW.region ?_
      refine SL.v (.bool (decide (((k : Nat) : Int) < (((Ls).length : Nat) : Int)))) ?_
      refine SL.nil ?_
      refine CW.seq ?_
      rcases Bool.eq_false_or_eq_true (decide (((k : Nat) : Int) < (((Ls).length : Nat) : Int))) with hb_109 | hb_109
      · try rw [hb_109]
        have hqhb_109 := of_decide_eq_true hb_109
        refine CW.cond_true (by kernel_rfl) ?_
        refine CW.skip ?_
        refine CW.seq ?_
        refine CW.block ?_
        refine CW.seq ?_
        refine CW.region ?_
        refine SL.v (.int .i64 ((k : Nat) : Int)) ?_
        refine SL.v (.int .i64 ((k : Nat) : Int)) ?_
        refine SL.nil ?_
        refine CW.region ?_
        refine SL.v (.int .i64 ((t : Nat) : Int)) ?_
        refine SL.v (.slice aF ((Ls).length) cF) ?_
        refine SL.v (.int .i64 ((k : Nat) : Int)) ?_
        obtain ⟨sb, soff, sC, sT, sfr, hsa, hsb, hsrc⟩ := hOut (by omega)
        refine SL.val (v := .pointer (some ⟨sb, soff + k, none⟩)) (w' := w_99) rfl rfl ((run_ixS (len := (Ls).length) (cap := cF) (q := .i64) (I := ((k : Nat) : Int)) (i := k) (size := 1) hsa rfl (by kernel_rfl) (by kernel_rfl) rfl (by kernel_rfl) (by kernel_rfl) (by omega)).trans (by rw [Nat.mul_one])) ?_
        refine SL.load (g := sb) (off := soff + k) (v := .slice E.a E.xs.length E.c) rfl rfl rfl (by kernel_rfl) (hs_100.gr.blk hsb) (ldV_one (by kernel_rfl) (by kernel_rfl) (by have h_ := hsrc k (by omega); rw [← hE] at h_; exact h_)) ?_
        refine SL.val (v := .int .i64 ((E.xs.length : Nat) : Int)) (w' := w_99) rfl rfl (by kernel_rfl) ?_
        refine SL.val (v := .int .i64 ((t + E.xs.length : Nat) : Int)) (w' := w_99) rfl rfl (by have hw : IntKind.i64.wrap (((t : Nat) : Int) + ((E.xs.length : Nat) : Int)) = ((t + E.xs.length : Nat) : Int) := (IntWalk.i64_in _ (by omega)).trans (by omega); exact run_eqv (by kernel_rfl) (congrArg (fun z => Value.int .i64 z) hw)) ?_
        refine SL.v (.int .i64 ((t + E.xs.length : Nat) : Int)) ?_
        refine SL.nil ?_
        refine CW.region ?_
        refine SL.val (v := .int .i64 ((k + 1 : Nat) : Int)) (w' := w_99) rfl rfl (by have hw : IntKind.i64.wrap (((k : Nat) : Int) + 1) = ((k + 1 : Nat) : Int) := (IntWalk.i64_in _ (by omega)).trans (by omega); exact run_eqv (by kernel_rfl) (congrArg (fun z => Value.int .i64 z) hw)) ?_
        refine SL.v (.int .i64 ((k + 1 : Nat) : Int)) ?_
        refine SL.nil ?_
        exact ⟨_, ⟨k + 1, t + E.xs.length, rfl, hs_100, (by omega), (by rw [few_take (by omega), List.map_append, List.sum_append, ← ht, ← hE]; simp), (by kernel_rfl), (by kernel_rfl), (by kernel_rfl), (by kernel_rfl), (by kernel_rfl), (by kernel_rfl)⟩, by omega⟩
      · try rw [hb_109]
        have hqhb_109 := of_decide_eq_false hb_109
        refine CW.cond_false (by kernel_rfl) ?_
        refine CW.exit ?_
        repeat with_reducible first | refine PThen.exit ?_ | refine PBlock.out rfl ?_
        with_reducible refine PBlock.here ?_
        repeat with_reducible refine PBlock.normal ?_
        refine CW.seq ?_
        have hkk9 : k = Ls.length := by omega
        rw [hkk9, List.take_length] at ht
        have hfin9 : ps_47.length = t := hpl9.trans ht.symm
        refine CW.region ?_
        refine SL.v (.slice a_45 ((ps_47).length) c_46) ?_
        refine SL.val (v := .int .i64 (((ps_47).length : Nat) : Int)) (w' := w_99) rfl rfl (by kernel_rfl) ?_
        refine SL.v (.int .i64 ((t : Nat) : Int)) ?_
        refine SL.val (v := .bool true) (w' := w_99) rfl rfl (run_eqv (by kernel_rfl) (congrArg Value.bool (show ((((ps_47).length : Nat) : Int) == ((t : Nat) : Int)) = (true) from (by rw [hfin9]; exact beq_self_eq_true _)))) ?_
        refine SL.v (.bool true) ?_
        refine SL.nil ?_
        refine CW.ret ?_
        repeat with_reducible first | refine PThen.ret ?_ | refine PBlock.ret ?_
        refine PRet.tmp (t := 2) (v := .bool true) rfl rfl (by kernel_rfl) ?_
        exact ⟨rfl, (hG_43.trans hs_100.gr)⟩
end Go.Proofs.Ytaelmkkobjdgbaa
