/-
  The document's Merge, walked (gen_mgt.py).
-/
import Derived.Test.YtaelmkkobjdgbaaZMgS
namespace Go.Proofs.Ytaelmkkobjdgbaa
set_option linter.unusedSimpArgs false
set_option linter.unusedVariables false
open Go.RowKit
set_option linter.unusedVariables false

theorem run_from1L {P : Program} {w : World} {o : Oper} {ev : Nat → Value} {t : TypeId} {x y : Operand} {e : LE} {b off : Nat} (ha : e.a = some ⟨b, off, none⟩) (ho : o.op = .slice t x (some y) none none) (hx : evE ev x = .slice e.a e.xs.length e.c) (hy : evE ev y = .int .i64 1)
    (ht : P.underlying t = some (.slice (P.elem t))) (hs : (P.info? (P.elem t)).map (·.size) = some 9) (hi : 1 ≤ e.xs.length) (hc : e.xs.length ≤ e.c) :
    (execOp (evE ev) o).run P w = .ok (.value (.slice e.tl.a e.tl.xs.length e.tl.c)) w := by
  have hq : (⟨b, off, none⟩ : Addr) = ⟨(e.qe 0).b, (e.qe 0).off, none⟩ := by
    show _ = (⟨(e.a.getD _).block, (e.a.getD _).off, none⟩ : Addr)
    rw [ha]
    rfl
  exact run_from1 (e := e.qe 0) ho (by rw [hx, ha, hq]; rfl) hy ht hs hi hc
set_option maxRecDepth 100000 in
set_option maxHeartbeats 8000000 in
theorem rmerge_f (sa : Option Addr) (sc : Nat) (F : List LE) (w : World) (hOut : OutAt w sa F) (hF : LFc F w) (hn0 : F.length ≤ 1000) (ht0 : totQ (headsF 0 F) ≤ 100000) : Calls Try.prog 9 #[.slice sa F.length sc] w fun e w' => ∃ (ao : Option Addr) (co : Nat) (out : List Pl), e = .returned (.slice ao out.length co) ∧ MRel (headsF 0 F) (ordP out) ∧ out.length = totQ (headsF 0 F) ∧ (∀ p ∈ out, p.a = p.x.da ∧ p.c = p.x.dc) ∧ SH [] w w' [rowH 46 10 ao out.length co (pcells out)] := by
  refine calls_sx (n := 66) (args := [.slice sa ((F).length) sc]) Try.func9 rfl rfl rfl ?_
  have hs0 := SH.none w
  refine CW.seq ?_
  refine CW.region ?_
  refine SL.v (.slice none 0 0) ?_
  refine SL.nil ?_
  refine CW.seq ?_
  refine CW.region ?_
  refine SL.newH (mk := fun g => .slice (some ⟨g, 0, none⟩) 0 0) (C := #[]) (T := 25) hs0 rfl rfl (by kernel_rfl) (fun g_1 w_2 hs_3 => ?_)
  have hs_3 : SH [] w w_2 [pt g_1 #[] 25] := hs_3
  refine SL.v (.slice sa ((F).length) sc) ?_
  obtain ⟨Q_, hQ_, hs_4⟩ := hs_3.ent (is := [0]) rfl (row0_ent g_1 25)
  subst hQ_
  have hs_5 : SH [] w w_2 [rowH 25 1 (some ⟨g_1, 0, none⟩) (([] : List LE)).length 0 (ncells ([] : List LE))] := hs_4
  refine SL.appR (z := .slice none 0 0) (size := 1) (bytes := 24) (el := 25) (m := (F).length) (news := ncells F) (i := 0) (xs' := ncells (([] : List LE) ++ F)) (k' := (([] : List LE) ++ F).length) (L' := []) hs_5 rfl rfl rfl (by kernel_rfl) (by kernel_rfl) (by kernel_rfl) (by kernel_rfl) (by kernel_rfl) (by kernel_rfl) rfl rfl (srcF (el := 25) (by kernel_rfl) (hOut.gr hs_5.gr)) (by (try simp only [List.length_append, List.length_cons, List.length_nil]); omega) (ncells_app ([] : List LE) F) (by first | (simp; done) | (simp only [List.length_append, List.length_cons, List.length_nil] <;> omega)) rfl (fun a_6 c_7 w_8 hs_9 => ?_)
  have hs_9 : SH [] w w_8 [rowH 25 1 a_6 (([] : List LE) ++ F).length c_7 (ncells (([] : List LE) ++ F))] := hs_9
  refine SL.v (.slice a_6 ((([] : List LE) ++ F).length) c_7) ?_
  refine SL.nil ?_
  refine CW.seq ?_
  refine CW.region ?_
  refine SL.v (.slice none 0 0) ?_
  refine SL.nil ?_
  refine CW.block ?_
  have hs_11 := hs_9.row0 46 10
  have hs_12 : SH [] w w_8 [rowH 25 1 a_6 (([] : List LE) ++ F).length c_7 (ncells (([] : List LE) ++ F)), rowH 46 10 none (([] : List Pl)).length 0 (pcells ([] : List Pl))] := hs_11
  refine CW.loopI (fun m_ e9 w9 => ∃ (left : List LE), ∃ (al : Option Addr), ∃ (cl : Nat), ∃ (out : List Pl), ∃ (ao : Option Addr), ∃ (co : Nat), m_ = totQ (headsF 0 left) ∧ SH [] w w9 [rowH 25 1 al (F).length cl (ncells left), rowH 46 10 ao (out).length co (pcells out)] ∧ (left.length = F.length) ∧ (LFc left w) ∧ (∀ l, MRel (headsF 0 left) l → MRel (headsF 0 F) (ordP out ++ l)) ∧ (out.length + totQ (headsF 0 left) = totQ (headsF 0 F)) ∧ (∀ p ∈ out, p.a = p.x.da ∧ p.c = p.x.dc) ∧ e9 2 = .slice none 0 0 ∧ e9 3 = .slice al ((F).length) cl ∧ e9 4 = .slice ao ((out).length) co) ⟨_, _, _, _, [], none, 0, rfl, (hs_12.pick [0, 0] rfl), rfl, hF, (fun l hl => hl), (Nat.zero_add _), (fun p hp => absurd hp (by simp)), (by kernel_rfl), (by kernel_rfl), (by kernel_rfl)⟩ ?_
  rintro m_13 e_14 w_15 ⟨left, al, cl, out, ao, co, hm_17, hs_16, hll, hLF, hrel, htt, hpa, hv_18, hv_19, hv_20⟩
  obtain ⟨e_21, rfl⟩ : ∃ e_21, e_14 = put1 (put1 (put1 e_21 2 (.slice none 0 0)) 3 (.slice al ((F).length) cl)) 4 (.slice ao ((out).length) co) := ⟨e_14, (put_self hv_20).trans (congrArg (fun z => put1 z 4 (.slice ao ((out).length) co)) ((put_self hv_19).trans (congrArg (fun z => put1 z 3 (.slice al ((F).length) cl)) (put_self hv_18))))⟩
  clear hv_18 hv_19 hv_20
  refine CW.block ?_
  refine CW.seq ?_
  refine CW.region ?_
  refine SL.v (.int .i64 (-1)) ?_
  refine SL.nil ?_
  refine CW.seq ?_
  refine CW.seq ?_
  refine CW.region ?_
  refine SL.v (.int .i64 0) ?_
  refine SL.nil ?_
  refine CW.block ?_
  refine CW.loopI (fun m_ e9 w9 => ∃ (i : Nat), ∃ (bn : Nat), m_ = left.length - i ∧ SH [] w w9 [rowH 25 1 al (F).length cl (ncells left), rowH 46 10 ao (out).length co (pcells out)] ∧ (i ≤ left.length) ∧ (bn ≤ i) ∧ (0 < bn → 0 < (left.getD (bn - 1) le0).xs.length) ∧ (∀ z, z < i → 0 < (left.getD z le0).xs.length → 0 < bn ∧ (z < bn - 1 → atL left (bn - 1) < atL left z) ∧ (bn - 1 ≤ z → atL left (bn - 1) ≤ atL left z)) ∧ e9 2 = .slice none 0 0 ∧ e9 3 = .slice al ((F).length) cl ∧ e9 4 = .slice ao ((out).length) co ∧ e9 5 = .int .i64 (bI bn) ∧ e9 6 = .int .i64 ((i : Nat) : Int)) ⟨_, 0, 0, rfl, hs_16, (Nat.zero_le _), (Nat.zero_le _), (fun h => absurd h (Nat.lt_irrefl _)), (fun z hz => absurd hz (Nat.not_lt_zero z)), (by kernel_rfl), (by kernel_rfl), (by kernel_rfl), (by kernel_rfl), (by kernel_rfl)⟩ ?_
  rintro m_22 e_23 w_24 ⟨i, bn, hm_26, hs_25, hi, hbi, hbl, hsel, hv_27, hv_28, hv_29, hv_30, hv_31⟩
  obtain ⟨e_32, rfl⟩ : ∃ e_32, e_23 = put1 (put1 (put1 (put1 (put1 e_32 2 (.slice none 0 0)) 3 (.slice al ((F).length) cl)) 4 (.slice ao ((out).length) co)) 5 (.int .i64 (bI bn))) 6 (.int .i64 ((i : Nat) : Int)) := ⟨e_23, (put_self hv_31).trans (congrArg (fun z => put1 z 6 (.int .i64 ((i : Nat) : Int))) ((put_self hv_30).trans (congrArg (fun z => put1 z 5 (.int .i64 (bI bn))) ((put_self hv_29).trans (congrArg (fun z => put1 z 4 (.slice ao ((out).length) co)) ((put_self hv_28).trans (congrArg (fun z => put1 z 3 (.slice al ((F).length) cl)) (put_self hv_27))))))))⟩
  clear hv_27 hv_28 hv_29 hv_30 hv_31
  have hbI_ := bI_cases bn
  refine CW.seq ?_
  refine CW.seq ?_
  refine CW.region ?_
  refine SL.v (.int .i64 ((i : Nat) : Int)) ?_
  refine SL.v (.slice al ((F).length) cl) ?_
  refine SL.val (v := .int .i64 (((F).length : Nat) : Int)) (w' := w_24) rfl rfl (by kernel_rfl) ?_
  refine SL.v (.bool (decide (((i : Nat) : Int) < (((F).length : Nat) : Int)))) ?_
  refine SL.nil ?_
  rcases Bool.eq_false_or_eq_true (decide (((i : Nat) : Int) < (((F).length : Nat) : Int))) with hb_33 | hb_33
  · try rw [hb_33]
    have hqhb_33 := of_decide_eq_true hb_33
    refine CW.cond_true (by kernel_rfl) ?_
    refine CW.skip ?_
    refine CW.seq ?_
    refine CW.block ?_
    refine CW.seq ?_
    rcases Bool.eq_false_or_eq_true (decide (0 < (((left.getD i le0).xs.length : Nat) : Int))) with hb_34 | hb_34
    · try rw [hb_34]
      have hqhb_34 := of_decide_eq_true hb_34
      rcases Bool.eq_false_or_eq_true (decide ((bI bn) < 0)) with hb_35 | hb_35
      · try rw [hb_35]
        have hqhb_35 := of_decide_eq_true hb_35
        obtain ⟨g_36, ha_37⟩ := hs_25.row_some (i := 0) rfl (show 0 < (F).length by omega)
        have HGR : GrL [fun v _ => v = .slice al ((F).length) cl, fun v _ => v = .int .i64 ((i : Nat) : Int), fun v _ => v = .pointer (some ⟨g_36, i, none⟩), fun v _ => v = .slice ((left.getD i le0).a) ((left.getD i le0).xs.length) ((left.getD i le0).c), fun v _ => v = .int .i64 (((left.getD i le0).xs.length : Nat) : Int), fun v _ => v = .bool true, fun v _ => v = .bool true, fun v _ => v = .int .i64 (bI bn), fun v _ => v = .bool true, fun v _ => v = .bool true, fun _ _ => True, fun _ _ => True, fun _ _ => True, fun _ _ => True, fun _ _ => True, fun _ _ => True, fun _ _ => True, fun _ _ => True, fun _ _ => True, fun _ _ => True, fun _ _ => True, fun _ _ => True, fun _ _ => True, fun _ _ => True] := ⟨fun _ _ _ _ h => h, ⟨fun _ _ _ _ h => h, ⟨fun _ _ _ _ h => h, ⟨fun _ _ _ _ h => h, ⟨fun _ _ _ _ h => h, ⟨fun _ _ _ _ h => h, ⟨fun _ _ _ _ h => h, ⟨fun _ _ _ _ h => h, ⟨fun _ _ _ _ h => h, ⟨fun _ _ _ _ h => h, ⟨fun _ _ _ _ h => h, ⟨fun _ _ _ _ h => h, ⟨fun _ _ _ _ h => h, ⟨fun _ _ _ _ h => h, ⟨fun _ _ _ _ h => h, ⟨fun _ _ _ _ h => h, ⟨fun _ _ _ _ h => h, ⟨fun _ _ _ _ h => h, ⟨fun _ _ _ _ h => h, ⟨fun _ _ _ _ h => h, ⟨fun _ _ _ _ h => h, ⟨fun _ _ _ _ h => h, ⟨fun _ _ _ _ h => h, ⟨fun _ _ _ _ h => h, trivial⟩⟩⟩⟩⟩⟩⟩⟩⟩⟩⟩⟩⟩⟩⟩⟩⟩⟩⟩⟩⟩⟩⟩⟩
        refine CW.draw 24 (FW [fun v _ => v = .slice al ((F).length) cl, fun v _ => v = .int .i64 ((i : Nat) : Int), fun v _ => v = .pointer (some ⟨g_36, i, none⟩), fun v _ => v = .slice ((left.getD i le0).a) ((left.getD i le0).xs.length) ((left.getD i le0).c), fun v _ => v = .int .i64 (((left.getD i le0).xs.length : Nat) : Int), fun v _ => v = .bool true, fun v _ => v = .bool true, fun v _ => v = .int .i64 (bI bn), fun v _ => v = .bool true, fun v _ => v = .bool true, fun _ _ => True, fun _ _ => True, fun _ _ => True, fun _ _ => True, fun _ _ => True, fun _ _ => True, fun _ _ => True, fun _ _ => True, fun _ _ => True, fun _ _ => True, fun _ _ => True, fun _ _ => True, fun _ _ => True, fun _ _ => True]) (fun W => Gr w_24 W) (by kernel_rfl) (by kernel_rfl) (by kernel_rfl) (by kernel_rfl) (by kernel_rfl) (Gr.refl _).drew ?_ ?_
        · refine ⟨?_, ⟨?_, ⟨?_, ⟨?_, ⟨?_, ⟨?_, ⟨?_, ⟨?_, ⟨?_, ⟨?_, ⟨?_, ⟨?_, ⟨?_, ⟨?_, ⟨?_, ⟨?_, ⟨?_, ⟨?_, ⟨?_, ⟨?_, ⟨?_, ⟨?_, ⟨?_, ⟨?_, trivial⟩⟩⟩⟩⟩⟩⟩⟩⟩⟩⟩⟩⟩⟩⟩⟩⟩⟩⟩⟩⟩⟩⟩⟩
          · intro L ys W hB hF hP K hK
            show OpE _ _ _ W K
            exact OpE.val (.slice al ((F).length) cl) W (by kernel_rfl) (hK _ W hB rfl (fun _ _ h => h))
          · intro L ys W hB hF hP K hK
            show OpE _ _ _ W K
            exact OpE.val (.int .i64 ((i : Nat) : Int)) W (by kernel_rfl) (hK _ W hB rfl (fun _ _ h => h))
          · intro L ys W hB hF hP K hK
            show OpE _ _ _ W K
            exact OpE.known (j := 0) (v := .slice al ((F).length) cl) (hF 0 (hP.1 rfl)) (OpE.known (j := 1) (v := .int .i64 ((i : Nat) : Int)) (hF 1 (hP.2.1 rfl)) (OpE.val (.pointer (some ⟨g_36, i, none⟩)) W ((run_ixR (len := (F).length) (cap := cl) (q := .i64) (I := ((i : Nat) : Int)) (i := i) (size := 1) ha_37 rfl (by kernel_rfl) (by kernel_rfl) rfl (by kernel_rfl) (by kernel_rfl) (by omega)).trans (by rw [Nat.mul_one])) (hK _ W hB rfl (fun _ _ h => h))))
          · intro L ys W hB hF hP K hK
            show OpE _ _ _ W K
            exact OpE.known (j := 2) (v := .pointer (some ⟨g_36, i, none⟩)) (hF 2 (hP.1 rfl)) (OpE.load (g := g_36) (off := i) (v := .slice ((left.getD i le0).a) ((left.getD i le0).xs.length) ((left.getD i le0).c)) rfl (by kernel_rfl) ((hs_25.grow hB).row_blk (i := 0) ha_37 rfl) (ldV_one (by kernel_rfl) (by kernel_rfl) ((hs_25.grow hB).row_one (i := 0) ha_37 rfl (by have h_ := ncells_get (l := left) (i := i) (j := 0) (by omega) rfl; rw [Nat.mul_one] at h_; exact h_))) (hK _ W hB rfl (fun _ _ h => h)))
          · intro L ys W hB hF hP K hK
            show OpE _ _ _ W K
            exact OpE.known (j := 3) (v := .slice ((left.getD i le0).a) ((left.getD i le0).xs.length) ((left.getD i le0).c)) (hF 3 (hP.1 rfl)) (OpE.val (.int .i64 (((left.getD i le0).xs.length : Nat) : Int)) W (by kernel_rfl) (hK _ W hB rfl (fun _ _ h => h)))
          · intro L ys W hB hF hP K hK
            show OpE _ _ _ W K
            exact OpE.known (j := 4) (v := .int .i64 (((left.getD i le0).xs.length : Nat) : Int)) (hF 4 (hP.1 rfl)) (OpE.val (.bool true) W (run_eqv (by kernel_rfl) (congrArg Value.bool hb_34)) (hK _ W hB rfl (fun _ _ h => h)))
          · intro L ys W hB hF hP K hK
            show OpE _ _ _ W K
            exact OpE.known (j := 5) (v := .bool true) (hF 5 (hP.1 rfl)) (OpE.val (.bool true) W (by kernel_rfl) (hK _ W hB rfl (fun _ _ h => h)))
          · intro L ys W hB hF hP K hK
            refine ⟨22, true, rfl, (show fillE _ 0 ys _ 22 = _ from (hF 6 (hP.1 rfl))), .inl ⟨rfl, ?_⟩⟩
            exact OpE.val (.int .i64 (bI bn)) W (by kernel_rfl) (hK _ W hB rfl (fun _ _ h => h))
          · intro L ys W hB hF hP K hK
            refine ⟨22, true, rfl, (show fillE _ 0 ys _ 22 = _ from (hF 6 (hP.2.1 rfl))), .inl ⟨rfl, ?_⟩⟩
            exact OpE.known (j := 7) (v := .int .i64 (bI bn)) (hF 7 (hP.1 rfl)) (OpE.val (.bool true) W (run_eqv (by kernel_rfl) (congrArg Value.bool hb_35)) (hK _ W hB rfl (fun _ _ h => h)))
          · intro L ys W hB hF hP K hK
            refine ⟨22, true, rfl, (show fillE _ 0 ys _ 22 = _ from (hF 6 (hP.2.2.1 rfl))), .inl ⟨rfl, ?_⟩⟩
            exact OpE.known (j := 8) (v := .bool true) (hF 8 (hP.1 rfl)) (OpE.val (.bool true) W (by kernel_rfl) (hK _ W hB rfl (fun _ _ h => h)))
          · intro L ys W hB hF hP K hK
            refine ⟨25, true, rfl, (show fillE _ 0 ys _ 25 = _ from (hF 9 (hP.1 rfl))), .inr ⟨rfl, ?_⟩⟩
            exact hK _ W hB trivial (fun _ _ h => h)
          · intro L ys W hB hF hP K hK
            refine ⟨25, true, rfl, (show fillE _ 0 ys _ 25 = _ from (hF 9 (hP.1 rfl))), .inr ⟨rfl, ?_⟩⟩
            exact hK _ W hB trivial (fun _ _ h => h)
          · intro L ys W hB hF hP K hK
            refine ⟨25, true, rfl, (show fillE _ 0 ys _ 25 = _ from (hF 9 (hP.2.2.1 rfl))), .inr ⟨rfl, ?_⟩⟩
            exact hK _ W hB trivial (fun _ _ h => h)
          · intro L ys W hB hF hP K hK
            refine ⟨25, true, rfl, (show fillE _ 0 ys _ 25 = _ from (hF 9 (hP.2.1 rfl))), .inr ⟨rfl, ?_⟩⟩
            exact hK _ W hB trivial (fun _ _ h => h)
          · intro L ys W hB hF hP K hK
            refine ⟨25, true, rfl, (show fillE _ 0 ys _ 25 = _ from (hF 9 (hP.2.1 rfl))), .inr ⟨rfl, ?_⟩⟩
            exact hK _ W hB trivial (fun _ _ h => h)
          · intro L ys W hB hF hP K hK
            refine ⟨25, true, rfl, (show fillE _ 0 ys _ 25 = _ from (hF 9 (hP.2.1 rfl))), .inr ⟨rfl, ?_⟩⟩
            exact hK _ W hB trivial (fun _ _ h => h)
          · intro L ys W hB hF hP K hK
            refine ⟨25, true, rfl, (show fillE _ 0 ys _ 25 = _ from (hF 9 (hP.2.1 rfl))), .inr ⟨rfl, ?_⟩⟩
            exact hK _ W hB trivial (fun _ _ h => h)
          · intro L ys W hB hF hP K hK
            refine ⟨25, true, rfl, (show fillE _ 0 ys _ 25 = _ from (hF 9 (hP.1 rfl))), .inr ⟨rfl, ?_⟩⟩
            exact hK _ W hB trivial (fun _ _ h => h)
          · intro L ys W hB hF hP K hK
            refine ⟨25, true, rfl, (show fillE _ 0 ys _ 25 = _ from (hF 9 (hP.1 rfl))), .inr ⟨rfl, ?_⟩⟩
            exact hK _ W hB trivial (fun _ _ h => h)
          · intro L ys W hB hF hP K hK
            refine ⟨25, true, rfl, (show fillE _ 0 ys _ 25 = _ from (hF 9 (hP.2.2.1 rfl))), .inr ⟨rfl, ?_⟩⟩
            exact hK _ W hB trivial (fun _ _ h => h)
          · intro L ys W hB hF hP K hK
            refine ⟨25, true, rfl, (show fillE _ 0 ys _ 25 = _ from (hF 9 (hP.2.1 rfl))), .inr ⟨rfl, ?_⟩⟩
            exact hK _ W hB trivial (fun _ _ h => h)
          · intro L ys W hB hF hP K hK
            refine ⟨25, true, rfl, (show fillE _ 0 ys _ 25 = _ from (hF 9 (hP.2.1 rfl))), .inr ⟨rfl, ?_⟩⟩
            exact hK _ W hB trivial (fun _ _ h => h)
          · intro L ys W hB hF hP K hK
            refine ⟨25, true, rfl, (show fillE _ 0 ys _ 25 = _ from (hF 9 (hP.2.1 rfl))), .inr ⟨rfl, ?_⟩⟩
            exact hK _ W hB trivial (fun _ _ h => h)
          · intro L ys W hB hF hP K hK
            refine ⟨25, true, rfl, (show fillE _ 0 ys _ 25 = _ from (hF 9 (hP.2.1 rfl))), .inr ⟨rfl, ?_⟩⟩
            exact hK _ W hB trivial (fun _ _ h => h)
        · intro ys_41 w_38 hs_39 hF_40
          have hg_42 := hs_39
          have hs_39 : SH [] w w_38 [rowH 25 1 al (F).length cl (ncells left), rowH 46 10 ao (out).length co (pcells out)] := hs_25.grow hg_42
          refine SL.knownY (j := 6) (v := .bool true) (show ys_41 6 = .bool true from hF_40 6 (by decide)) (SL.knownY (j := 7) (v := .int .i64 (bI bn)) (show ys_41 7 = .int .i64 (bI bn) from hF_40 7 (by decide)) (SL.knownY (j := 8) (v := .bool true) (show ys_41 8 = .bool true from hF_40 8 (by decide)) (SL.knownY (j := 9) (v := .bool true) (show ys_41 9 = .bool true from hF_40 9 (by decide)) (?_))))
          clear hF_40 HGR
          refine SL.no true ?_
          refine SL.go ?_
          refine SL.v (.bool true) ?_
          refine SL.v (.bool true) ?_
          refine SL.nil ?_
          refine CW.cond_true (by kernel_rfl) ?_
          refine CW.region ?_
          refine SL.v (.int .i64 ((i : Nat) : Int)) ?_
          refine SL.v (.int .i64 ((i : Nat) : Int)) ?_
          refine SL.nil ?_
          refine CW.region ?_
          refine SL.v (.int .i64 ((i : Nat) : Int)) ?_
          refine SL.val (v := .int .i64 ((i + 1 : Nat) : Int)) (w' := w_38) rfl rfl (by have hw : IntKind.i64.wrap (((i : Nat) : Int) + 1) = ((i + 1 : Nat) : Int) := (IntWalk.i64_in _ (by omega)).trans (by omega); exact run_eqv (by kernel_rfl) (congrArg (fun z => Value.int .i64 z) hw)) ?_
          refine SL.v (.int .i64 ((i + 1 : Nat) : Int)) ?_
          refine SL.nil ?_
          exact ⟨_, ⟨i + 1, i + 1, rfl, hs_39, (by omega), (Nat.le_refl _), (fun _ => by rw [Nat.add_sub_cancel]; omega), (by rw [Nat.add_sub_cancel]; exact fun z hz h0 => by rcases Nat.lt_succ_iff_lt_or_eq.1 hz with h_ | rfl; (have h9 := hsel z h_ h0; unfold atL at h9 ⊢; exact ⟨Nat.succ_pos _, fun _ => by omega, fun _ => by omega⟩); exact ⟨Nat.succ_pos _, fun h => absurd h (Nat.lt_irrefl _), fun _ => Int.le_refl _⟩), (by kernel_rfl), (by kernel_rfl), (by kernel_rfl), (by kernel_rfl), (by kernel_rfl)⟩, by omega⟩
      · try rw [hb_35]
        have hqhb_35 := of_decide_eq_false hb_35
        obtain ⟨g_43, ha_44⟩ := hs_25.row_some (i := 0) rfl (show 0 < (F).length by omega)
        obtain ⟨ib_45, io_46, hia_47, hir_48⟩ := (hLF.1 _ (getD_mem (Ls := left) (k := i) (by omega))).1 (by omega)
        obtain ⟨ib_49, io_50, hia_51, hir_52⟩ := (hLF.1 _ (getD_mem (Ls := left) (k := bn - 1) (by omega))).1 (by omega)
        have HGR : GrL [fun v _ => v = .slice al ((F).length) cl, fun v _ => v = .int .i64 ((i : Nat) : Int), fun v _ => v = .pointer (some ⟨g_43, i, none⟩), fun v _ => v = .slice ((left.getD i le0).a) ((left.getD i le0).xs.length) ((left.getD i le0).c), fun v _ => v = .int .i64 (((left.getD i le0).xs.length : Nat) : Int), fun v _ => v = .bool true, fun v _ => v = .bool true, fun v _ => v = .int .i64 (bI bn), fun v _ => v = .bool false, fun v _ => v = .bool false, fun v _ => v = .slice al ((F).length) cl, fun v _ => v = .int .i64 ((i : Nat) : Int), fun v _ => v = .pointer (some ⟨g_43, i, none⟩), fun v _ => v = .slice ((left.getD i le0).a) ((left.getD i le0).xs.length) ((left.getD i le0).c), fun v _ => v = .pointer (some ⟨ib_45, io_46 + 0 * 9, none⟩), fun v _ => v = .pointer (some ⟨ib_45, io_46 + 0 * 9, none⟩), fun v _ => v = .int .i64 (((left.getD i le0).xs.getD 0 itm0).at_), fun v _ => v = .slice al ((F).length) cl, fun v _ => v = .int .i64 (bI bn), fun v _ => v = .pointer (some ⟨g_43, bn - 1, none⟩), fun v _ => v = .slice ((left.getD (bn - 1) le0).a) ((left.getD (bn - 1) le0).xs.length) ((left.getD (bn - 1) le0).c), fun v _ => v = .pointer (some ⟨ib_49, io_50 + 0 * 9, none⟩), fun v _ => v = .pointer (some ⟨ib_49, io_50 + 0 * 9, none⟩), fun v _ => v = .int .i64 (((left.getD (bn - 1) le0).xs.getD 0 itm0).at_)] := ⟨fun _ _ _ _ h => h, ⟨fun _ _ _ _ h => h, ⟨fun _ _ _ _ h => h, ⟨fun _ _ _ _ h => h, ⟨fun _ _ _ _ h => h, ⟨fun _ _ _ _ h => h, ⟨fun _ _ _ _ h => h, ⟨fun _ _ _ _ h => h, ⟨fun _ _ _ _ h => h, ⟨fun _ _ _ _ h => h, ⟨fun _ _ _ _ h => h, ⟨fun _ _ _ _ h => h, ⟨fun _ _ _ _ h => h, ⟨fun _ _ _ _ h => h, ⟨fun _ _ _ _ h => h, ⟨fun _ _ _ _ h => h, ⟨fun _ _ _ _ h => h, ⟨fun _ _ _ _ h => h, ⟨fun _ _ _ _ h => h, ⟨fun _ _ _ _ h => h, ⟨fun _ _ _ _ h => h, ⟨fun _ _ _ _ h => h, ⟨fun _ _ _ _ h => h, ⟨fun _ _ _ _ h => h, trivial⟩⟩⟩⟩⟩⟩⟩⟩⟩⟩⟩⟩⟩⟩⟩⟩⟩⟩⟩⟩⟩⟩⟩⟩
        refine CW.draw 24 (FW [fun v _ => v = .slice al ((F).length) cl, fun v _ => v = .int .i64 ((i : Nat) : Int), fun v _ => v = .pointer (some ⟨g_43, i, none⟩), fun v _ => v = .slice ((left.getD i le0).a) ((left.getD i le0).xs.length) ((left.getD i le0).c), fun v _ => v = .int .i64 (((left.getD i le0).xs.length : Nat) : Int), fun v _ => v = .bool true, fun v _ => v = .bool true, fun v _ => v = .int .i64 (bI bn), fun v _ => v = .bool false, fun v _ => v = .bool false, fun v _ => v = .slice al ((F).length) cl, fun v _ => v = .int .i64 ((i : Nat) : Int), fun v _ => v = .pointer (some ⟨g_43, i, none⟩), fun v _ => v = .slice ((left.getD i le0).a) ((left.getD i le0).xs.length) ((left.getD i le0).c), fun v _ => v = .pointer (some ⟨ib_45, io_46 + 0 * 9, none⟩), fun v _ => v = .pointer (some ⟨ib_45, io_46 + 0 * 9, none⟩), fun v _ => v = .int .i64 (((left.getD i le0).xs.getD 0 itm0).at_), fun v _ => v = .slice al ((F).length) cl, fun v _ => v = .int .i64 (bI bn), fun v _ => v = .pointer (some ⟨g_43, bn - 1, none⟩), fun v _ => v = .slice ((left.getD (bn - 1) le0).a) ((left.getD (bn - 1) le0).xs.length) ((left.getD (bn - 1) le0).c), fun v _ => v = .pointer (some ⟨ib_49, io_50 + 0 * 9, none⟩), fun v _ => v = .pointer (some ⟨ib_49, io_50 + 0 * 9, none⟩), fun v _ => v = .int .i64 (((left.getD (bn - 1) le0).xs.getD 0 itm0).at_)]) (fun W => Gr w_24 W) (by kernel_rfl) (by kernel_rfl) (by kernel_rfl) (by kernel_rfl) (by kernel_rfl) (Gr.refl _).drew ?_ ?_
        · refine ⟨?_, ⟨?_, ⟨?_, ⟨?_, ⟨?_, ⟨?_, ⟨?_, ⟨?_, ⟨?_, ⟨?_, ⟨?_, ⟨?_, ⟨?_, ⟨?_, ⟨?_, ⟨?_, ⟨?_, ⟨?_, ⟨?_, ⟨?_, ⟨?_, ⟨?_, ⟨?_, ⟨?_, trivial⟩⟩⟩⟩⟩⟩⟩⟩⟩⟩⟩⟩⟩⟩⟩⟩⟩⟩⟩⟩⟩⟩⟩⟩
          · intro L ys W hB hF hP K hK
            show OpE _ _ _ W K
            exact OpE.val (.slice al ((F).length) cl) W (by kernel_rfl) (hK _ W hB rfl (fun _ _ h => h))
          · intro L ys W hB hF hP K hK
            show OpE _ _ _ W K
            exact OpE.val (.int .i64 ((i : Nat) : Int)) W (by kernel_rfl) (hK _ W hB rfl (fun _ _ h => h))
          · intro L ys W hB hF hP K hK
            show OpE _ _ _ W K
            exact OpE.known (j := 0) (v := .slice al ((F).length) cl) (hF 0 (hP.1 rfl)) (OpE.known (j := 1) (v := .int .i64 ((i : Nat) : Int)) (hF 1 (hP.2.1 rfl)) (OpE.val (.pointer (some ⟨g_43, i, none⟩)) W ((run_ixR (len := (F).length) (cap := cl) (q := .i64) (I := ((i : Nat) : Int)) (i := i) (size := 1) ha_44 rfl (by kernel_rfl) (by kernel_rfl) rfl (by kernel_rfl) (by kernel_rfl) (by omega)).trans (by rw [Nat.mul_one])) (hK _ W hB rfl (fun _ _ h => h))))
          · intro L ys W hB hF hP K hK
            show OpE _ _ _ W K
            exact OpE.known (j := 2) (v := .pointer (some ⟨g_43, i, none⟩)) (hF 2 (hP.1 rfl)) (OpE.load (g := g_43) (off := i) (v := .slice ((left.getD i le0).a) ((left.getD i le0).xs.length) ((left.getD i le0).c)) rfl (by kernel_rfl) ((hs_25.grow hB).row_blk (i := 0) ha_44 rfl) (ldV_one (by kernel_rfl) (by kernel_rfl) ((hs_25.grow hB).row_one (i := 0) ha_44 rfl (by have h_ := ncells_get (l := left) (i := i) (j := 0) (by omega) rfl; rw [Nat.mul_one] at h_; exact h_))) (hK _ W hB rfl (fun _ _ h => h)))
          · intro L ys W hB hF hP K hK
            show OpE _ _ _ W K
            exact OpE.known (j := 3) (v := .slice ((left.getD i le0).a) ((left.getD i le0).xs.length) ((left.getD i le0).c)) (hF 3 (hP.1 rfl)) (OpE.val (.int .i64 (((left.getD i le0).xs.length : Nat) : Int)) W (by kernel_rfl) (hK _ W hB rfl (fun _ _ h => h)))
          · intro L ys W hB hF hP K hK
            show OpE _ _ _ W K
            exact OpE.known (j := 4) (v := .int .i64 (((left.getD i le0).xs.length : Nat) : Int)) (hF 4 (hP.1 rfl)) (OpE.val (.bool true) W (run_eqv (by kernel_rfl) (congrArg Value.bool hb_34)) (hK _ W hB rfl (fun _ _ h => h)))
          · intro L ys W hB hF hP K hK
            show OpE _ _ _ W K
            exact OpE.known (j := 5) (v := .bool true) (hF 5 (hP.1 rfl)) (OpE.val (.bool true) W (by kernel_rfl) (hK _ W hB rfl (fun _ _ h => h)))
          · intro L ys W hB hF hP K hK
            refine ⟨22, true, rfl, (show fillE _ 0 ys _ 22 = _ from (hF 6 (hP.1 rfl))), .inl ⟨rfl, ?_⟩⟩
            exact OpE.val (.int .i64 (bI bn)) W (by kernel_rfl) (hK _ W hB rfl (fun _ _ h => h))
          · intro L ys W hB hF hP K hK
            refine ⟨22, true, rfl, (show fillE _ 0 ys _ 22 = _ from (hF 6 (hP.2.1 rfl))), .inl ⟨rfl, ?_⟩⟩
            exact OpE.known (j := 7) (v := .int .i64 (bI bn)) (hF 7 (hP.1 rfl)) (OpE.val (.bool false) W (run_eqv (by kernel_rfl) (congrArg Value.bool hb_35)) (hK _ W hB rfl (fun _ _ h => h)))
          · intro L ys W hB hF hP K hK
            refine ⟨22, true, rfl, (show fillE _ 0 ys _ 22 = _ from (hF 6 (hP.2.2.1 rfl))), .inl ⟨rfl, ?_⟩⟩
            exact OpE.known (j := 8) (v := .bool false) (hF 8 (hP.1 rfl)) (OpE.val (.bool false) W (by kernel_rfl) (hK _ W hB rfl (fun _ _ h => h)))
          · intro L ys W hB hF hP K hK
            refine ⟨25, false, rfl, (show fillE _ 0 ys _ 25 = _ from (hF 9 (hP.1 rfl))), .inl ⟨rfl, ?_⟩⟩
            exact OpE.val (.slice al ((F).length) cl) W (by kernel_rfl) (hK _ W hB rfl (fun _ _ h => h))
          · intro L ys W hB hF hP K hK
            refine ⟨25, false, rfl, (show fillE _ 0 ys _ 25 = _ from (hF 9 (hP.1 rfl))), .inl ⟨rfl, ?_⟩⟩
            exact OpE.val (.int .i64 ((i : Nat) : Int)) W (by kernel_rfl) (hK _ W hB rfl (fun _ _ h => h))
          · intro L ys W hB hF hP K hK
            refine ⟨25, false, rfl, (show fillE _ 0 ys _ 25 = _ from (hF 9 (hP.2.2.1 rfl))), .inl ⟨rfl, ?_⟩⟩
            exact OpE.known (j := 10) (v := .slice al ((F).length) cl) (hF 10 (hP.1 rfl)) (OpE.known (j := 11) (v := .int .i64 ((i : Nat) : Int)) (hF 11 (hP.2.1 rfl)) (OpE.val (.pointer (some ⟨g_43, i, none⟩)) W ((run_ixR (len := (F).length) (cap := cl) (q := .i64) (I := ((i : Nat) : Int)) (i := i) (size := 1) ha_44 rfl (by kernel_rfl) (by kernel_rfl) rfl (by kernel_rfl) (by kernel_rfl) (by omega)).trans (by rw [Nat.mul_one])) (hK _ W hB rfl (fun _ _ h => h))))
          · intro L ys W hB hF hP K hK
            refine ⟨25, false, rfl, (show fillE _ 0 ys _ 25 = _ from (hF 9 (hP.2.1 rfl))), .inl ⟨rfl, ?_⟩⟩
            exact OpE.known (j := 12) (v := .pointer (some ⟨g_43, i, none⟩)) (hF 12 (hP.1 rfl)) (OpE.load (g := g_43) (off := i) (v := .slice ((left.getD i le0).a) ((left.getD i le0).xs.length) ((left.getD i le0).c)) rfl (by kernel_rfl) ((hs_25.grow hB).row_blk (i := 0) ha_44 rfl) (ldV_one (by kernel_rfl) (by kernel_rfl) ((hs_25.grow hB).row_one (i := 0) ha_44 rfl (by have h_ := ncells_get (l := left) (i := i) (j := 0) (by omega) rfl; rw [Nat.mul_one] at h_; exact h_))) (hK _ W hB rfl (fun _ _ h => h)))
          · intro L ys W hB hF hP K hK
            refine ⟨25, false, rfl, (show fillE _ 0 ys _ 25 = _ from (hF 9 (hP.2.1 rfl))), .inl ⟨rfl, ?_⟩⟩
            exact OpE.known (j := 13) (v := .slice ((left.getD i le0).a) ((left.getD i le0).xs.length) ((left.getD i le0).c)) (hF 13 (hP.1 rfl)) (OpE.val (.pointer (some ⟨ib_45, io_46 + 0 * 9, none⟩)) W (run_ixS (len := (left.getD i le0).xs.length) (cap := (left.getD i le0).c) (q := .i64) (I := 0) (i := 0) (size := 9) hia_47 rfl (by kernel_rfl) (by kernel_rfl) rfl (by kernel_rfl) (by kernel_rfl) (by omega)) (hK _ W hB rfl (fun _ _ h => h)))
          · intro L ys W hB hF hP K hK
            refine ⟨25, false, rfl, (show fillE _ 0 ys _ 25 = _ from (hF 9 (hP.2.1 rfl))), .inl ⟨rfl, ?_⟩⟩
            exact OpE.known (j := 14) (v := .pointer (some ⟨ib_45, io_46 + 0 * 9, none⟩)) (hF 14 (hP.1 rfl)) (OpE.val (.pointer (some ⟨ib_45, io_46 + 0 * 9, none⟩)) W (by kernel_rfl) (hK _ W hB rfl (fun _ _ h => h)))
          · intro L ys W hB hF hP K hK
            refine ⟨25, false, rfl, (show fillE _ 0 ys _ 25 = _ from (hF 9 (hP.2.1 rfl))), .inl ⟨rfl, ?_⟩⟩
            exact OpE.known (j := 15) (v := .pointer (some ⟨ib_45, io_46 + 0 * 9, none⟩)) (hF 15 (hP.1 rfl)) (OpE.load (g := ib_45) (off := io_46 + 0 * 9) (v := .int .i64 (((left.getD i le0).xs.getD 0 itm0).at_)) rfl (by kernel_rfl) (hir_48.gr (hs_25.grow hB).gr).blk (ldV_one (by kernel_rfl) (by kernel_rfl) ((hir_48.gr (hs_25.grow hB).gr).one (i := 0) (by omega) (j := 0) rfl)) (hK _ W hB rfl (fun _ _ h => h)))
          · intro L ys W hB hF hP K hK
            refine ⟨25, false, rfl, (show fillE _ 0 ys _ 25 = _ from (hF 9 (hP.1 rfl))), .inl ⟨rfl, ?_⟩⟩
            exact OpE.val (.slice al ((F).length) cl) W (by kernel_rfl) (hK _ W hB rfl (fun _ _ h => h))
          · intro L ys W hB hF hP K hK
            refine ⟨25, false, rfl, (show fillE _ 0 ys _ 25 = _ from (hF 9 (hP.1 rfl))), .inl ⟨rfl, ?_⟩⟩
            exact OpE.val (.int .i64 (bI bn)) W (by kernel_rfl) (hK _ W hB rfl (fun _ _ h => h))
          · intro L ys W hB hF hP K hK
            refine ⟨25, false, rfl, (show fillE _ 0 ys _ 25 = _ from (hF 9 (hP.2.2.1 rfl))), .inl ⟨rfl, ?_⟩⟩
            exact OpE.known (j := 17) (v := .slice al ((F).length) cl) (hF 17 (hP.1 rfl)) (OpE.known (j := 18) (v := .int .i64 (bI bn)) (hF 18 (hP.2.1 rfl)) (OpE.val (.pointer (some ⟨g_43, bn - 1, none⟩)) W ((run_ixR (len := (F).length) (cap := cl) (q := .i64) (I := bI bn) (i := bn - 1) (size := 1) ha_44 rfl (by kernel_rfl) (by kernel_rfl) (by omega) (by kernel_rfl) (by kernel_rfl) (by omega)).trans (by rw [Nat.mul_one])) (hK _ W hB rfl (fun _ _ h => h))))
          · intro L ys W hB hF hP K hK
            refine ⟨25, false, rfl, (show fillE _ 0 ys _ 25 = _ from (hF 9 (hP.2.1 rfl))), .inl ⟨rfl, ?_⟩⟩
            exact OpE.known (j := 19) (v := .pointer (some ⟨g_43, bn - 1, none⟩)) (hF 19 (hP.1 rfl)) (OpE.load (g := g_43) (off := bn - 1) (v := .slice ((left.getD (bn - 1) le0).a) ((left.getD (bn - 1) le0).xs.length) ((left.getD (bn - 1) le0).c)) rfl (by kernel_rfl) ((hs_25.grow hB).row_blk (i := 0) ha_44 rfl) (ldV_one (by kernel_rfl) (by kernel_rfl) ((hs_25.grow hB).row_one (i := 0) ha_44 rfl (by have h_ := ncells_get (l := left) (i := bn - 1) (j := 0) (by omega) rfl; rw [Nat.mul_one] at h_; exact h_))) (hK _ W hB rfl (fun _ _ h => h)))
          · intro L ys W hB hF hP K hK
            refine ⟨25, false, rfl, (show fillE _ 0 ys _ 25 = _ from (hF 9 (hP.2.1 rfl))), .inl ⟨rfl, ?_⟩⟩
            exact OpE.known (j := 20) (v := .slice ((left.getD (bn - 1) le0).a) ((left.getD (bn - 1) le0).xs.length) ((left.getD (bn - 1) le0).c)) (hF 20 (hP.1 rfl)) (OpE.val (.pointer (some ⟨ib_49, io_50 + 0 * 9, none⟩)) W (run_ixS (len := (left.getD (bn - 1) le0).xs.length) (cap := (left.getD (bn - 1) le0).c) (q := .i64) (I := 0) (i := 0) (size := 9) hia_51 rfl (by kernel_rfl) (by kernel_rfl) rfl (by kernel_rfl) (by kernel_rfl) (by omega)) (hK _ W hB rfl (fun _ _ h => h)))
          · intro L ys W hB hF hP K hK
            refine ⟨25, false, rfl, (show fillE _ 0 ys _ 25 = _ from (hF 9 (hP.2.1 rfl))), .inl ⟨rfl, ?_⟩⟩
            exact OpE.known (j := 21) (v := .pointer (some ⟨ib_49, io_50 + 0 * 9, none⟩)) (hF 21 (hP.1 rfl)) (OpE.val (.pointer (some ⟨ib_49, io_50 + 0 * 9, none⟩)) W (by kernel_rfl) (hK _ W hB rfl (fun _ _ h => h)))
          · intro L ys W hB hF hP K hK
            refine ⟨25, false, rfl, (show fillE _ 0 ys _ 25 = _ from (hF 9 (hP.2.1 rfl))), .inl ⟨rfl, ?_⟩⟩
            exact OpE.known (j := 22) (v := .pointer (some ⟨ib_49, io_50 + 0 * 9, none⟩)) (hF 22 (hP.1 rfl)) (OpE.load (g := ib_49) (off := io_50 + 0 * 9) (v := .int .i64 (((left.getD (bn - 1) le0).xs.getD 0 itm0).at_)) rfl (by kernel_rfl) (hir_52.gr (hs_25.grow hB).gr).blk (ldV_one (by kernel_rfl) (by kernel_rfl) ((hir_52.gr (hs_25.grow hB).gr).one (i := 0) (by omega) (j := 0) rfl)) (hK _ W hB rfl (fun _ _ h => h)))
        · intro ys_56 w_53 hs_54 hF_55
          have hg_57 := hs_54
          have hs_54 : SH [] w w_53 [rowH 25 1 al (F).length cl (ncells left), rowH 46 10 ao (out).length co (pcells out)] := hs_25.grow hg_57
          refine SL.knownY (j := 6) (v := .bool true) (show ys_56 6 = .bool true from hF_55 6 (by decide)) (SL.knownY (j := 7) (v := .int .i64 (bI bn)) (show ys_56 7 = .int .i64 (bI bn) from hF_55 7 (by decide)) (SL.knownY (j := 8) (v := .bool false) (show ys_56 8 = .bool false from hF_55 8 (by decide)) (SL.knownY (j := 9) (v := .bool false) (show ys_56 9 = .bool false from hF_55 9 (by decide)) (SL.knownY (j := 10) (v := .slice al ((F).length) cl) (show ys_56 10 = .slice al ((F).length) cl from hF_55 10 (by decide)) (SL.knownY (j := 11) (v := .int .i64 ((i : Nat) : Int)) (show ys_56 11 = .int .i64 ((i : Nat) : Int) from hF_55 11 (by decide)) (SL.knownY (j := 12) (v := .pointer (some ⟨g_43, i, none⟩)) (show ys_56 12 = .pointer (some ⟨g_43, i, none⟩) from hF_55 12 (by decide)) (SL.knownY (j := 13) (v := .slice ((left.getD i le0).a) ((left.getD i le0).xs.length) ((left.getD i le0).c)) (show ys_56 13 = .slice ((left.getD i le0).a) ((left.getD i le0).xs.length) ((left.getD i le0).c) from hF_55 13 (by decide)) (SL.knownY (j := 14) (v := .pointer (some ⟨ib_45, io_46 + 0 * 9, none⟩)) (show ys_56 14 = .pointer (some ⟨ib_45, io_46 + 0 * 9, none⟩) from hF_55 14 (by decide)) (SL.knownY (j := 15) (v := .pointer (some ⟨ib_45, io_46 + 0 * 9, none⟩)) (show ys_56 15 = .pointer (some ⟨ib_45, io_46 + 0 * 9, none⟩) from hF_55 15 (by decide)) (SL.knownY (j := 16) (v := .int .i64 (((left.getD i le0).xs.getD 0 itm0).at_)) (show ys_56 16 = .int .i64 (((left.getD i le0).xs.getD 0 itm0).at_) from hF_55 16 (by decide)) (SL.knownY (j := 17) (v := .slice al ((F).length) cl) (show ys_56 17 = .slice al ((F).length) cl from hF_55 17 (by decide)) (SL.knownY (j := 18) (v := .int .i64 (bI bn)) (show ys_56 18 = .int .i64 (bI bn) from hF_55 18 (by decide)) (SL.knownY (j := 19) (v := .pointer (some ⟨g_43, bn - 1, none⟩)) (show ys_56 19 = .pointer (some ⟨g_43, bn - 1, none⟩) from hF_55 19 (by decide)) (SL.knownY (j := 20) (v := .slice ((left.getD (bn - 1) le0).a) ((left.getD (bn - 1) le0).xs.length) ((left.getD (bn - 1) le0).c)) (show ys_56 20 = .slice ((left.getD (bn - 1) le0).a) ((left.getD (bn - 1) le0).xs.length) ((left.getD (bn - 1) le0).c) from hF_55 20 (by decide)) (SL.knownY (j := 21) (v := .pointer (some ⟨ib_49, io_50 + 0 * 9, none⟩)) (show ys_56 21 = .pointer (some ⟨ib_49, io_50 + 0 * 9, none⟩) from hF_55 21 (by decide)) (SL.knownY (j := 22) (v := .pointer (some ⟨ib_49, io_50 + 0 * 9, none⟩)) (show ys_56 22 = .pointer (some ⟨ib_49, io_50 + 0 * 9, none⟩) from hF_55 22 (by decide)) (SL.knownY (j := 23) (v := .int .i64 (((left.getD (bn - 1) le0).xs.getD 0 itm0).at_)) (show ys_56 23 = .int .i64 (((left.getD (bn - 1) le0).xs.getD 0 itm0).at_) from hF_55 23 (by decide)) (?_))))))))))))))))))
          clear hF_55 HGR
          refine SL.go ?_
          refine SL.v (.bool (decide ((((left.getD i le0).xs.getD 0 itm0).at_) < (((left.getD (bn - 1) le0).xs.getD 0 itm0).at_)))) ?_
          refine SL.go ?_
          refine SL.v (.bool (decide ((((left.getD i le0).xs.getD 0 itm0).at_) < (((left.getD (bn - 1) le0).xs.getD 0 itm0).at_)))) ?_
          refine SL.v (.bool (decide ((((left.getD i le0).xs.getD 0 itm0).at_) < (((left.getD (bn - 1) le0).xs.getD 0 itm0).at_)))) ?_
          refine SL.nil ?_
          rcases Bool.eq_false_or_eq_true (decide ((((left.getD i le0).xs.getD 0 itm0).at_) < (((left.getD (bn - 1) le0).xs.getD 0 itm0).at_))) with hb_58 | hb_58
          · try rw [hb_58]
            have hqhb_58 := of_decide_eq_true hb_58
            refine CW.cond_true (by kernel_rfl) ?_
            refine CW.region ?_
            refine SL.v (.int .i64 ((i : Nat) : Int)) ?_
            refine SL.v (.int .i64 ((i : Nat) : Int)) ?_
            refine SL.nil ?_
            refine CW.region ?_
            refine SL.v (.int .i64 ((i : Nat) : Int)) ?_
            refine SL.val (v := .int .i64 ((i + 1 : Nat) : Int)) (w' := w_53) rfl rfl (by have hw : IntKind.i64.wrap (((i : Nat) : Int) + 1) = ((i + 1 : Nat) : Int) := (IntWalk.i64_in _ (by omega)).trans (by omega); exact run_eqv (by kernel_rfl) (congrArg (fun z => Value.int .i64 z) hw)) ?_
            refine SL.v (.int .i64 ((i + 1 : Nat) : Int)) ?_
            refine SL.nil ?_
            exact ⟨_, ⟨i + 1, i + 1, rfl, hs_54, (by omega), (Nat.le_refl _), (fun _ => by rw [Nat.add_sub_cancel]; omega), (by rw [Nat.add_sub_cancel]; exact fun z hz h0 => by rcases Nat.lt_succ_iff_lt_or_eq.1 hz with h_ | rfl; (have h9 := hsel z h_ h0; unfold atL at h9 ⊢; exact ⟨Nat.succ_pos _, fun _ => by omega, fun _ => by omega⟩); exact ⟨Nat.succ_pos _, fun h => absurd h (Nat.lt_irrefl _), fun _ => Int.le_refl _⟩), (by kernel_rfl), (by kernel_rfl), (by kernel_rfl), (by kernel_rfl), (by kernel_rfl)⟩, by omega⟩
          · try rw [hb_58]
            have hqhb_58 := of_decide_eq_false hb_58
            refine CW.cond_false (by kernel_rfl) ?_
            refine CW.skip ?_
            refine CW.region ?_
            refine SL.v (.int .i64 ((i : Nat) : Int)) ?_
            refine SL.val (v := .int .i64 ((i + 1 : Nat) : Int)) (w' := w_53) rfl rfl (by have hw : IntKind.i64.wrap (((i : Nat) : Int) + 1) = ((i + 1 : Nat) : Int) := (IntWalk.i64_in _ (by omega)).trans (by omega); exact run_eqv (by kernel_rfl) (congrArg (fun z => Value.int .i64 z) hw)) ?_
            refine SL.v (.int .i64 ((i + 1 : Nat) : Int)) ?_
            refine SL.nil ?_
            exact ⟨_, ⟨i + 1, bn, rfl, hs_54, (by omega), (by omega), hbl, (fun z hz h0 => by rcases Nat.lt_succ_iff_lt_or_eq.1 hz with h_ | rfl; exact hsel z h_ h0; exact ⟨by omega, fun _ => by omega, fun _ => by unfold atL; omega⟩), (by kernel_rfl), (by kernel_rfl), (by kernel_rfl), (by kernel_rfl), (by kernel_rfl)⟩, by omega⟩
    · try rw [hb_34]
      have hqhb_34 := of_decide_eq_false hb_34
      obtain ⟨g_59, ha_60⟩ := hs_25.row_some (i := 0) rfl (show 0 < (F).length by omega)
      have HGR : GrL [fun v _ => v = .slice al ((F).length) cl, fun v _ => v = .int .i64 ((i : Nat) : Int), fun v _ => v = .pointer (some ⟨g_59, i, none⟩), fun v _ => v = .slice ((left.getD i le0).a) ((left.getD i le0).xs.length) ((left.getD i le0).c), fun v _ => v = .int .i64 (((left.getD i le0).xs.length : Nat) : Int), fun v _ => v = .bool false, fun v _ => v = .bool false, fun v _ => v = undef, fun v _ => v = undef, fun v _ => v = undef, fun v _ => v = undef, fun v _ => v = undef, fun v _ => v = undef, fun v _ => v = undef, fun v _ => v = undef, fun v _ => v = undef, fun v _ => v = undef, fun v _ => v = undef, fun v _ => v = undef, fun v _ => v = undef, fun v _ => v = undef, fun v _ => v = undef, fun v _ => v = undef, fun v _ => v = undef] := ⟨fun _ _ _ _ h => h, ⟨fun _ _ _ _ h => h, ⟨fun _ _ _ _ h => h, ⟨fun _ _ _ _ h => h, ⟨fun _ _ _ _ h => h, ⟨fun _ _ _ _ h => h, ⟨fun _ _ _ _ h => h, ⟨fun _ _ _ _ h => h, ⟨fun _ _ _ _ h => h, ⟨fun _ _ _ _ h => h, ⟨fun _ _ _ _ h => h, ⟨fun _ _ _ _ h => h, ⟨fun _ _ _ _ h => h, ⟨fun _ _ _ _ h => h, ⟨fun _ _ _ _ h => h, ⟨fun _ _ _ _ h => h, ⟨fun _ _ _ _ h => h, ⟨fun _ _ _ _ h => h, ⟨fun _ _ _ _ h => h, ⟨fun _ _ _ _ h => h, ⟨fun _ _ _ _ h => h, ⟨fun _ _ _ _ h => h, ⟨fun _ _ _ _ h => h, ⟨fun _ _ _ _ h => h, trivial⟩⟩⟩⟩⟩⟩⟩⟩⟩⟩⟩⟩⟩⟩⟩⟩⟩⟩⟩⟩⟩⟩⟩⟩
      refine CW.drawV 24 (FW [fun v _ => v = .slice al ((F).length) cl, fun v _ => v = .int .i64 ((i : Nat) : Int), fun v _ => v = .pointer (some ⟨g_59, i, none⟩), fun v _ => v = .slice ((left.getD i le0).a) ((left.getD i le0).xs.length) ((left.getD i le0).c), fun v _ => v = .int .i64 (((left.getD i le0).xs.length : Nat) : Int), fun v _ => v = .bool false, fun v _ => v = .bool false, fun v _ => v = undef, fun v _ => v = undef, fun v _ => v = undef, fun v _ => v = undef, fun v _ => v = undef, fun v _ => v = undef, fun v _ => v = undef, fun v _ => v = undef, fun v _ => v = undef, fun v _ => v = undef, fun v _ => v = undef, fun v _ => v = undef, fun v _ => v = undef, fun v _ => v = undef, fun v _ => v = undef, fun v _ => v = undef, fun v _ => v = undef]) (fun W => Gr w_24 W) (by kernel_rfl) (by kernel_rfl) (by kernel_rfl) (by kernel_rfl) (by kernel_rfl) (Gr.refl _).drew ?_ ?_
      · refine ⟨?_, ⟨?_, ⟨?_, ⟨?_, ⟨?_, ⟨?_, ⟨?_, ⟨?_, ⟨?_, ⟨?_, ⟨?_, ⟨?_, ⟨?_, ⟨?_, ⟨?_, ⟨?_, ⟨?_, ⟨?_, ⟨?_, ⟨?_, ⟨?_, ⟨?_, ⟨?_, ⟨?_, trivial⟩⟩⟩⟩⟩⟩⟩⟩⟩⟩⟩⟩⟩⟩⟩⟩⟩⟩⟩⟩⟩⟩⟩⟩
        · intro L ys W hB hF hP K hK
          refine .inl ?_
          show OpE _ _ _ W K
          exact OpE.val (.slice al ((F).length) cl) W (by kernel_rfl) (hK _ W hB rfl (fun _ _ h => h))
        · intro L ys W hB hF hP K hK
          refine .inl ?_
          show OpE _ _ _ W K
          exact OpE.val (.int .i64 ((i : Nat) : Int)) W (by kernel_rfl) (hK _ W hB rfl (fun _ _ h => h))
        · intro L ys W hB hF hP K hK
          refine .inl ?_
          show OpE _ _ _ W K
          exact OpE.known (j := 0) (v := .slice al ((F).length) cl) (hF 0 (hP.1 rfl)) (OpE.known (j := 1) (v := .int .i64 ((i : Nat) : Int)) (hF 1 (hP.2.1 rfl)) (OpE.val (.pointer (some ⟨g_59, i, none⟩)) W ((run_ixR (len := (F).length) (cap := cl) (q := .i64) (I := ((i : Nat) : Int)) (i := i) (size := 1) ha_60 rfl (by kernel_rfl) (by kernel_rfl) rfl (by kernel_rfl) (by kernel_rfl) (by omega)).trans (by rw [Nat.mul_one])) (hK _ W hB rfl (fun _ _ h => h))))
        · intro L ys W hB hF hP K hK
          refine .inl ?_
          show OpE _ _ _ W K
          exact OpE.known (j := 2) (v := .pointer (some ⟨g_59, i, none⟩)) (hF 2 (hP.1 rfl)) (OpE.load (g := g_59) (off := i) (v := .slice ((left.getD i le0).a) ((left.getD i le0).xs.length) ((left.getD i le0).c)) rfl (by kernel_rfl) ((hs_25.grow hB).row_blk (i := 0) ha_60 rfl) (ldV_one (by kernel_rfl) (by kernel_rfl) ((hs_25.grow hB).row_one (i := 0) ha_60 rfl (by have h_ := ncells_get (l := left) (i := i) (j := 0) (by omega) rfl; rw [Nat.mul_one] at h_; exact h_))) (hK _ W hB rfl (fun _ _ h => h)))
        · intro L ys W hB hF hP K hK
          refine .inl ?_
          show OpE _ _ _ W K
          exact OpE.known (j := 3) (v := .slice ((left.getD i le0).a) ((left.getD i le0).xs.length) ((left.getD i le0).c)) (hF 3 (hP.1 rfl)) (OpE.val (.int .i64 (((left.getD i le0).xs.length : Nat) : Int)) W (by kernel_rfl) (hK _ W hB rfl (fun _ _ h => h)))
        · intro L ys W hB hF hP K hK
          refine .inl ?_
          show OpE _ _ _ W K
          exact OpE.known (j := 4) (v := .int .i64 (((left.getD i le0).xs.length : Nat) : Int)) (hF 4 (hP.1 rfl)) (OpE.val (.bool false) W (run_eqv (by kernel_rfl) (congrArg Value.bool hb_34)) (hK _ W hB rfl (fun _ _ h => h)))
        · intro L ys W hB hF hP K hK
          refine .inl ?_
          show OpE _ _ _ W K
          exact OpE.known (j := 5) (v := .bool false) (hF 5 (hP.1 rfl)) (OpE.val (.bool false) W (by kernel_rfl) (hK _ W hB rfl (fun _ _ h => h)))
        · intro L ys W hB hF hP K hK
          refine .inl ⟨22, false, rfl, (show fillE _ 0 ys _ 22 = _ from (hF 6 (hP.1 rfl))), .inr ⟨rfl, ?_⟩⟩
          exact hK _ W hB rfl (fun _ _ h => h)
        · intro L ys W hB hF hP K hK
          refine .inl ⟨22, false, rfl, (show fillE _ 0 ys _ 22 = _ from (hF 6 (hP.2.1 rfl))), .inr ⟨rfl, ?_⟩⟩
          exact hK _ W hB rfl (fun _ _ h => h)
        · intro L ys W hB hF hP K hK
          refine .inl ⟨22, false, rfl, (show fillE _ 0 ys _ 22 = _ from (hF 6 (hP.2.2.1 rfl))), .inr ⟨rfl, ?_⟩⟩
          exact hK _ W hB rfl (fun _ _ h => h)
        · intro L ys W hB hF hP K hK
          exact .inr ⟨9, false, 25, rfl, rfl, (show fillE _ 0 ys _ 25 = undef from (hF 9 (hP.1 rfl))), hK _ W hB rfl (fun _ _ h => h)⟩
        · intro L ys W hB hF hP K hK
          exact .inr ⟨9, false, 25, rfl, rfl, (show fillE _ 0 ys _ 25 = undef from (hF 9 (hP.1 rfl))), hK _ W hB rfl (fun _ _ h => h)⟩
        · intro L ys W hB hF hP K hK
          exact .inr ⟨9, false, 25, rfl, rfl, (show fillE _ 0 ys _ 25 = undef from (hF 9 (hP.2.2.1 rfl))), hK _ W hB rfl (fun _ _ h => h)⟩
        · intro L ys W hB hF hP K hK
          exact .inr ⟨9, false, 25, rfl, rfl, (show fillE _ 0 ys _ 25 = undef from (hF 9 (hP.2.1 rfl))), hK _ W hB rfl (fun _ _ h => h)⟩
        · intro L ys W hB hF hP K hK
          exact .inr ⟨9, false, 25, rfl, rfl, (show fillE _ 0 ys _ 25 = undef from (hF 9 (hP.2.1 rfl))), hK _ W hB rfl (fun _ _ h => h)⟩
        · intro L ys W hB hF hP K hK
          exact .inr ⟨9, false, 25, rfl, rfl, (show fillE _ 0 ys _ 25 = undef from (hF 9 (hP.2.1 rfl))), hK _ W hB rfl (fun _ _ h => h)⟩
        · intro L ys W hB hF hP K hK
          exact .inr ⟨9, false, 25, rfl, rfl, (show fillE _ 0 ys _ 25 = undef from (hF 9 (hP.2.1 rfl))), hK _ W hB rfl (fun _ _ h => h)⟩
        · intro L ys W hB hF hP K hK
          exact .inr ⟨9, false, 25, rfl, rfl, (show fillE _ 0 ys _ 25 = undef from (hF 9 (hP.1 rfl))), hK _ W hB rfl (fun _ _ h => h)⟩
        · intro L ys W hB hF hP K hK
          exact .inr ⟨9, false, 25, rfl, rfl, (show fillE _ 0 ys _ 25 = undef from (hF 9 (hP.1 rfl))), hK _ W hB rfl (fun _ _ h => h)⟩
        · intro L ys W hB hF hP K hK
          exact .inr ⟨9, false, 25, rfl, rfl, (show fillE _ 0 ys _ 25 = undef from (hF 9 (hP.2.2.1 rfl))), hK _ W hB rfl (fun _ _ h => h)⟩
        · intro L ys W hB hF hP K hK
          exact .inr ⟨9, false, 25, rfl, rfl, (show fillE _ 0 ys _ 25 = undef from (hF 9 (hP.2.1 rfl))), hK _ W hB rfl (fun _ _ h => h)⟩
        · intro L ys W hB hF hP K hK
          exact .inr ⟨9, false, 25, rfl, rfl, (show fillE _ 0 ys _ 25 = undef from (hF 9 (hP.2.1 rfl))), hK _ W hB rfl (fun _ _ h => h)⟩
        · intro L ys W hB hF hP K hK
          exact .inr ⟨9, false, 25, rfl, rfl, (show fillE _ 0 ys _ 25 = undef from (hF 9 (hP.2.1 rfl))), hK _ W hB rfl (fun _ _ h => h)⟩
        · intro L ys W hB hF hP K hK
          exact .inr ⟨9, false, 25, rfl, rfl, (show fillE _ 0 ys _ 25 = undef from (hF 9 (hP.2.1 rfl))), hK _ W hB rfl (fun _ _ h => h)⟩
      · intro ys_64 w_61 hs_62 hF_63
        have hg_65 := hs_62
        have hs_62 : SH [] w w_61 [rowH 25 1 al (F).length cl (ncells left), rowH 46 10 ao (out).length co (pcells out)] := hs_25.grow hg_65
        refine SL.knownY (j := 6) (v := .bool false) (show ys_64 6 = .bool false from hF_63 6 (by decide)) (SL.knownY (j := 9) (v := undef) (show ys_64 9 = undef from hF_63 9 (by decide)) (?_))
        clear hF_63 HGR
        refine SL.un ?_
        refine SL.no false ?_
        refine SL.v (.bool false) ?_
        refine SL.nil ?_
        refine CW.cond_false (by kernel_rfl) ?_
        refine CW.skip ?_
        refine CW.region ?_
        refine SL.v (.int .i64 ((i : Nat) : Int)) ?_
        refine SL.val (v := .int .i64 ((i + 1 : Nat) : Int)) (w' := w_61) rfl rfl (by have hw : IntKind.i64.wrap (((i : Nat) : Int) + 1) = ((i + 1 : Nat) : Int) := (IntWalk.i64_in _ (by omega)).trans (by omega); exact run_eqv (by kernel_rfl) (congrArg (fun z => Value.int .i64 z) hw)) ?_
        refine SL.v (.int .i64 ((i + 1 : Nat) : Int)) ?_
        refine SL.nil ?_
        exact ⟨_, ⟨i + 1, bn, rfl, hs_62, (by omega), (by omega), hbl, (fun z hz h0 => by rcases Nat.lt_succ_iff_lt_or_eq.1 hz with h_ | rfl; exact hsel z h_ h0; exact ⟨by omega, fun _ => by omega, fun _ => by unfold atL; omega⟩), (by kernel_rfl), (by kernel_rfl), (by kernel_rfl), (by kernel_rfl), (by kernel_rfl)⟩, by omega⟩
  · try rw [hb_33]
    have hqhb_33 := of_decide_eq_false hb_33
    refine CW.cond_false (by kernel_rfl) ?_
    refine CW.exit ?_
    repeat with_reducible first | refine PThen.exit ?_ | refine PBlock.out rfl ?_
    with_reducible refine PBlock.here ?_
    repeat with_reducible refine PBlock.normal ?_
    refine CW.seq ?_
    refine CW.seq ?_
    refine CW.region ?_
    refine SL.v (.int .i64 (bI bn)) ?_
    refine SL.v (.bool (decide ((bI bn) < 0))) ?_
    refine SL.nil ?_
    rcases Bool.eq_false_or_eq_true (decide ((bI bn) < 0)) with hb_66 | hb_66
    · try rw [hb_66]
      have hqhb_66 := of_decide_eq_true hb_66
      refine CW.cond_true (by kernel_rfl) ?_
      refine CW.seq ?_
      refine CW.region ?_
      refine SL.v (.slice ao ((out).length) co) ?_
      refine SL.v (.slice ao ((out).length) co) ?_
      refine SL.nil ?_
      refine CW.ret ?_
      repeat with_reducible first | refine PThen.ret ?_ | refine PBlock.ret ?_
      refine PRet.tmp (t := 2) (v := .slice ao ((out).length) co) rfl rfl (by kernel_rfl) ?_
      have hn9 : headsF 0 left = [] := heads_nil fun z hz h0 => by have h_ := hsel z (by omega) h0; omega
      have hr_ := hrel [] (by rw [hn9]; exact .nil)
      rw [List.append_nil] at hr_
      have ht_ : out.length = totQ (headsF 0 F) := by rw [hn9] at htt; exact htt
      exact ⟨ao, co, out, rfl, hr_, ht_, hpa, hs_25.pick [1] rfl⟩
    · try rw [hb_66]
      have hqhb_66 := of_decide_eq_false hb_66
      refine CW.cond_false (by kernel_rfl) ?_
      refine CW.skip ?_
      refine CW.seq ?_
      obtain ⟨n, rfl⟩ : ∃ n, bn = n + 1 := ⟨bn - 1, by omega⟩
      have hbn_ : bI (n + 1) = ((n : Nat) : Int) := rfl
      rw [hbn_]
      rw [Nat.add_sub_cancel] at hbl hsel
      have hmin9 : ∀ z, z < left.length → 0 < (left.getD z le0).xs.length → (z < n → atL left n < atL left z) ∧ (n ≤ z → atL left n ≤ atL left z) := fun z hz h0 => (hsel z (by omega) h0).2
      obtain ⟨g_67, pad_68, rfl, hs_69, hl_70, hc_71, hm_72⟩ := hs_25.ofRow (i := 0) rfl (show 0 < (F).length by omega)
      have hs_73 : SH [] w w_24 [rowH 46 10 ao (out).length co (pcells out), pt g_67 ⟨ncells left ++ pad_68⟩ 25] := hs_69
      refine CW.region ?_
      refine SL.v (.slice ao ((out).length) co) ?_
      refine SL.v (.slice (some ⟨g_67, 0, none⟩) ((F).length) cl) ?_
      refine SL.v (.int .i64 ((n : Nat) : Int)) ?_
      refine SL.val (v := .pointer (some ⟨g_67, n * 1, none⟩)) (w' := w_24) rfl rfl ((run_ix (len := (F).length) (cap := cl) (q := .i64) (I := ((n : Nat) : Int)) (g := g_67) (off := 0) (i := n) (size := 1) rfl (by kernel_rfl) (by kernel_rfl) rfl (by kernel_rfl) (by kernel_rfl) (by omega)).trans (by rw [Nat.zero_add])) ?_
      refine SL.load (g := g_67) (off := n * 1) (v := .slice ((left.getD n le0).a) ((left.getD n le0).xs.length) ((left.getD n le0).c)) rfl rfl rfl (by kernel_rfl) (hs_73.pt_at (i := 1) rfl) (ldV_one (by kernel_rfl) (by kernel_rfl) (srow_get (ncells_get (l := left) (i := n) (j := 0) (by omega) rfl))) ?_
      obtain ⟨ib_74, io_75, hia_76, hir_77⟩ := (hLF.1 _ (getD_mem (Ls := left) (k := n) (by omega))).1 (by omega)
      refine SL.val (v := .pointer (some ⟨ib_74, io_75 + 0 * 9, none⟩)) (w' := w_24) rfl rfl (run_ixS (len := (left.getD n le0).xs.length) (cap := (left.getD n le0).c) (q := .i64) (I := 0) (i := 0) (size := 9) hia_76 rfl (by kernel_rfl) (by kernel_rfl) rfl (by kernel_rfl) (by kernel_rfl) (by omega)) ?_
      refine SL.load (g := ib_74) (off := io_75 + 0 * 9) (v := .agg #[.int .i64 (((left.getD n le0).xs.getD 0 itm0).at_), .int .i64 (((left.getD n le0).xs.getD 0 itm0).kd), .slice (((left.getD n le0).xs.getD 0 itm0).da) (((left.getD n le0).xs.getD 0 itm0).bs.length) (((left.getD n le0).xs.getD 0 itm0).dc), .int .i64 (((left.getD n le0).xs.getD 0 itm0).k0), .int .u8 (((left.getD n le0).xs.getD 0 itm0).k1), .bool (((left.getD n le0).xs.getD 0 itm0).k2), .bool (((left.getD n le0).xs.getD 0 itm0).k3), .int .i64 (((left.getD n le0).xs.getD 0 itm0).rw_), .int .i64 (((left.getD n le0).xs.getD 0 itm0).cl)]) rfl rfl rfl (by kernel_rfl) (hir_77.gr hs_73.gr).blk (ldV_row (k := 9) (by kernel_rfl) (by kernel_rfl) ((hir_77.gr hs_73.gr).many (i := 0) (by omega) (j := 0) rfl (by decide)) rfl rfl) ?_
      refine SL.v (.int .i64 ((n : Nat) : Int)) ?_
      refine SL.v (.agg #[.int .i64 (((left.getD n le0).xs.getD 0 itm0).at_), .int .i64 (((left.getD n le0).xs.getD 0 itm0).kd), .slice (((left.getD n le0).xs.getD 0 itm0).da) (((left.getD n le0).xs.getD 0 itm0).bs.length) (((left.getD n le0).xs.getD 0 itm0).dc), .int .i64 (((left.getD n le0).xs.getD 0 itm0).k0), .int .u8 (((left.getD n le0).xs.getD 0 itm0).k1), .bool (((left.getD n le0).xs.getD 0 itm0).k2), .bool (((left.getD n le0).xs.getD 0 itm0).k3), .int .i64 (((left.getD n le0).xs.getD 0 itm0).rw_), .int .i64 (((left.getD n le0).xs.getD 0 itm0).cl), .int .i64 ((n : Nat) : Int)]) ?_
      refine SL.newH (mk := fun g => .slice (some ⟨g, 0, none⟩) 1 1) (C := #[.int .i64 (((left.getD n le0).xs.getD 0 itm0).at_), .int .i64 (((left.getD n le0).xs.getD 0 itm0).kd), .slice (((left.getD n le0).xs.getD 0 itm0).da) (((left.getD n le0).xs.getD 0 itm0).bs.length) (((left.getD n le0).xs.getD 0 itm0).dc), .int .i64 (((left.getD n le0).xs.getD 0 itm0).k0), .int .u8 (((left.getD n le0).xs.getD 0 itm0).k1), .bool (((left.getD n le0).xs.getD 0 itm0).k2), .bool (((left.getD n le0).xs.getD 0 itm0).k3), .int .i64 (((left.getD n le0).xs.getD 0 itm0).rw_), .int .i64 (((left.getD n le0).xs.getD 0 itm0).cl), .int .i64 ((n : Nat) : Int)]) (T := 46) hs_73 rfl rfl (by kernel_rfl) (fun g_78 w_79 hs_80 => ?_)
      have hs_80 : SH [] w w_79 [rowH 46 10 ao (out).length co (pcells out), pt g_67 ⟨ncells left ++ pad_68⟩ 25, pt g_78 #[.int .i64 (((left.getD n le0).xs.getD 0 itm0).at_), .int .i64 (((left.getD n le0).xs.getD 0 itm0).kd), .slice (((left.getD n le0).xs.getD 0 itm0).da) (((left.getD n le0).xs.getD 0 itm0).bs.length) (((left.getD n le0).xs.getD 0 itm0).dc), .int .i64 (((left.getD n le0).xs.getD 0 itm0).k0), .int .u8 (((left.getD n le0).xs.getD 0 itm0).k1), .bool (((left.getD n le0).xs.getD 0 itm0).k2), .bool (((left.getD n le0).xs.getD 0 itm0).k3), .int .i64 (((left.getD n le0).xs.getD 0 itm0).rw_), .int .i64 (((left.getD n le0).xs.getD 0 itm0).cl), .int .i64 ((n : Nat) : Int)] 46] := hs_80
      refine SL.appR (z := .agg #[.int .i64 0, .int .i64 0, .slice none 0 0, .int .i64 0, .int .u8 0, .bool false, .bool false, .int .i64 0, .int .i64 0, .int .i64 0]) (size := 10) (bytes := 80) (el := 46) (m := 1) (news := [.int .i64 (((left.getD n le0).xs.getD 0 itm0).at_), .int .i64 (((left.getD n le0).xs.getD 0 itm0).kd), .slice (((left.getD n le0).xs.getD 0 itm0).da) (((left.getD n le0).xs.getD 0 itm0).bs.length) (((left.getD n le0).xs.getD 0 itm0).dc), .int .i64 (((left.getD n le0).xs.getD 0 itm0).k0), .int .u8 (((left.getD n le0).xs.getD 0 itm0).k1), .bool (((left.getD n le0).xs.getD 0 itm0).k2), .bool (((left.getD n le0).xs.getD 0 itm0).k3), .int .i64 (((left.getD n le0).xs.getD 0 itm0).rw_), .int .i64 (((left.getD n le0).xs.getD 0 itm0).cl), .int .i64 ((n : Nat) : Int)]) (i := 0) (xs' := pcells (out ++ [(⟨((left.getD n le0).xs.getD 0 itm0), n, ((left.getD n le0).xs.getD 0 itm0).da, ((left.getD n le0).xs.getD 0 itm0).dc⟩ : Pl)])) (k' := (out ++ [(⟨((left.getD n le0).xs.getD 0 itm0), n, ((left.getD n le0).xs.getD 0 itm0).da, ((left.getD n le0).xs.getD 0 itm0).dc⟩ : Pl)]).length) (L' := [pt g_67 ⟨ncells left ++ pad_68⟩ 25, pt g_78 #[.int .i64 (((left.getD n le0).xs.getD 0 itm0).at_), .int .i64 (((left.getD n le0).xs.getD 0 itm0).kd), .slice (((left.getD n le0).xs.getD 0 itm0).da) (((left.getD n le0).xs.getD 0 itm0).bs.length) (((left.getD n le0).xs.getD 0 itm0).dc), .int .i64 (((left.getD n le0).xs.getD 0 itm0).k0), .int .u8 (((left.getD n le0).xs.getD 0 itm0).k1), .bool (((left.getD n le0).xs.getD 0 itm0).k2), .bool (((left.getD n le0).xs.getD 0 itm0).k3), .int .i64 (((left.getD n le0).xs.getD 0 itm0).rw_), .int .i64 (((left.getD n le0).xs.getD 0 itm0).cl), .int .i64 ((n : Nat) : Int)] 46]) hs_80 rfl rfl rfl (by kernel_rfl) (by kernel_rfl) (by kernel_rfl) (by kernel_rfl) (by kernel_rfl) (by kernel_rfl) rfl rfl (srcH (off := 0) (cs := [.int .i64 (((left.getD n le0).xs.getD 0 itm0).at_), .int .i64 (((left.getD n le0).xs.getD 0 itm0).kd), .slice (((left.getD n le0).xs.getD 0 itm0).da) (((left.getD n le0).xs.getD 0 itm0).bs.length) (((left.getD n le0).xs.getD 0 itm0).dc), .int .i64 (((left.getD n le0).xs.getD 0 itm0).k0), .int .u8 (((left.getD n le0).xs.getD 0 itm0).k1), .bool (((left.getD n le0).xs.getD 0 itm0).k2), .bool (((left.getD n le0).xs.getD 0 itm0).k3), .int .i64 (((left.getD n le0).xs.getD 0 itm0).rw_), .int .i64 (((left.getD n le0).xs.getD 0 itm0).cl), .int .i64 ((n : Nat) : Int)]) (el := 46) (by kernel_rfl) (hs_80.pt_at (i := 2) rfl) rfl rfl (List.all_eq_true.1 (by kernel_rfl))) (by (try simp only [List.length_append, List.length_cons, List.length_nil]); omega) (pcells_app out ([(⟨((left.getD n le0).xs.getD 0 itm0), n, ((left.getD n le0).xs.getD 0 itm0).da, ((left.getD n le0).xs.getD 0 itm0).dc⟩ : Pl)])) (by first | (simp; done) | (simp only [List.length_append, List.length_cons, List.length_nil] <;> omega)) rfl (fun a_81 c_82 w_83 hs_84 => ?_)
      have hs_84 : SH [] w w_83 [pt g_67 ⟨ncells left ++ pad_68⟩ 25, pt g_78 #[.int .i64 (((left.getD n le0).xs.getD 0 itm0).at_), .int .i64 (((left.getD n le0).xs.getD 0 itm0).kd), .slice (((left.getD n le0).xs.getD 0 itm0).da) (((left.getD n le0).xs.getD 0 itm0).bs.length) (((left.getD n le0).xs.getD 0 itm0).dc), .int .i64 (((left.getD n le0).xs.getD 0 itm0).k0), .int .u8 (((left.getD n le0).xs.getD 0 itm0).k1), .bool (((left.getD n le0).xs.getD 0 itm0).k2), .bool (((left.getD n le0).xs.getD 0 itm0).k3), .int .i64 (((left.getD n le0).xs.getD 0 itm0).rw_), .int .i64 (((left.getD n le0).xs.getD 0 itm0).cl), .int .i64 ((n : Nat) : Int)] 46, rowH 46 10 a_81 (out ++ [(⟨((left.getD n le0).xs.getD 0 itm0), n, ((left.getD n le0).xs.getD 0 itm0).da, ((left.getD n le0).xs.getD 0 itm0).dc⟩ : Pl)]).length c_82 (pcells (out ++ [(⟨((left.getD n le0).xs.getD 0 itm0), n, ((left.getD n le0).xs.getD 0 itm0).da, ((left.getD n le0).xs.getD 0 itm0).dc⟩ : Pl)]))] := hs_84
      refine SL.v (.slice a_81 ((out ++ [(⟨((left.getD n le0).xs.getD 0 itm0), n, ((left.getD n le0).xs.getD 0 itm0).da, ((left.getD n le0).xs.getD 0 itm0).dc⟩ : Pl)]).length) c_82) ?_
      refine SL.nil ?_
      refine CW.region ?_
      refine SL.v (.slice (some ⟨g_67, 0, none⟩) ((F).length) cl) ?_
      refine SL.v (.int .i64 ((n : Nat) : Int)) ?_
      refine SL.v (.slice (some ⟨g_67, 0, none⟩) ((F).length) cl) ?_
      refine SL.v (.int .i64 ((n : Nat) : Int)) ?_
      refine SL.val (v := .pointer (some ⟨g_67, n * 1, none⟩)) (w' := w_83) rfl rfl ((run_ix (len := (F).length) (cap := cl) (q := .i64) (I := ((n : Nat) : Int)) (g := g_67) (off := 0) (i := n) (size := 1) rfl (by kernel_rfl) (by kernel_rfl) rfl (by kernel_rfl) (by kernel_rfl) (by omega)).trans (by rw [Nat.zero_add])) ?_
      refine SL.load (g := g_67) (off := n * 1) (v := .slice ((left.getD n le0).a) ((left.getD n le0).xs.length) ((left.getD n le0).c)) rfl rfl rfl (by kernel_rfl) (hs_84.pt_at (i := 0) rfl) (ldV_one (by kernel_rfl) (by kernel_rfl) (srow_get (ncells_get (l := left) (i := n) (j := 0) (by omega) rfl))) ?_
      refine SL.val (v := .slice ((left.getD n le0).tl.a) ((left.getD n le0).tl.xs.length) ((left.getD n le0).tl.c)) (w' := w_83) rfl rfl (run_from1L (e := (left.getD n le0)) hia_76 rfl (by kernel_rfl) (by kernel_rfl) (by kernel_rfl) (by kernel_rfl) (by omega) (hLF.2 _ (getD_mem (by omega)) (by omega))) ?_
      refine SL.val (v := .pointer (some ⟨g_67, n * 1, none⟩)) (w' := w_83) rfl rfl ((run_ix (len := (F).length) (cap := cl) (q := .i64) (I := ((n : Nat) : Int)) (g := g_67) (off := 0) (i := n) (size := 1) rfl (by kernel_rfl) (by kernel_rfl) rfl (by kernel_rfl) (by kernel_rfl) (by omega)).trans (by rw [Nat.zero_add])) ?_
      refine SL.storeH (i := 0) (g := g_67) (off := n * 1) (v := .slice ((left.getD n le0).tl.a) ((left.getD n le0).tl.xs.length) ((left.getD n le0).tl.c)) (C' := ⟨ncells (left.set n ((left.getD n le0).tl)) ++ pad_68⟩) (L' := [pt g_67 ⟨ncells (left.set n ((left.getD n le0).tl)) ++ pad_68⟩ 25, pt g_78 #[.int .i64 (((left.getD n le0).xs.getD 0 itm0).at_), .int .i64 (((left.getD n le0).xs.getD 0 itm0).kd), .slice (((left.getD n le0).xs.getD 0 itm0).da) (((left.getD n le0).xs.getD 0 itm0).bs.length) (((left.getD n le0).xs.getD 0 itm0).dc), .int .i64 (((left.getD n le0).xs.getD 0 itm0).k0), .int .u8 (((left.getD n le0).xs.getD 0 itm0).k1), .bool (((left.getD n le0).xs.getD 0 itm0).k2), .bool (((left.getD n le0).xs.getD 0 itm0).k3), .int .i64 (((left.getD n le0).xs.getD 0 itm0).rw_), .int .i64 (((left.getD n le0).xs.getD 0 itm0).cl), .int .i64 ((n : Nat) : Int)] 46, rowH 46 10 a_81 (out ++ [(⟨((left.getD n le0).xs.getD 0 itm0), n, ((left.getD n le0).xs.getD 0 itm0).da, ((left.getD n le0).xs.getD 0 itm0).dc⟩ : Pl)]).length c_82 (pcells (out ++ [(⟨((left.getD n le0).xs.getD 0 itm0), n, ((left.getD n le0).xs.getD 0 itm0).da, ((left.getD n le0).xs.getD 0 itm0).dc⟩ : Pl)]))]) hs_84 rfl rfl rfl (by kernel_rfl) (by kernel_rfl) rfl (by kernel_rfl) (by kernel_rfl) (srow_room (f := lC1) (k := 1) lC1_len (l := left) (pad := pad_68) (i := n) (j := 0) (m := 1) (by (try simp only [List.length_set]); omega) (by decide)) (show setL ⟨ncells left ++ pad_68⟩ (n * 1) [.slice ((left.getD n le0).tl.a) ((left.getD n le0).tl.xs.length) ((left.getD n le0).tl.c)] = ⟨ncells (left.set n ((left.getD n le0).tl)) ++ pad_68⟩ from flC_setP (f := lC1) (d := le0) (k := 1) lC1_len (l := left) (pad := pad_68) (i := n) (j := 0) (e := (left.getD n le0).tl) (vs := [.slice ((left.getD n le0).tl.a) ((left.getD n le0).tl.xs.length) ((left.getD n le0).tl.c)]) (by (try simp only [List.length_set]); omega) (show 0 + 1 ≤ 1 by decide) rfl) rfl (fun w_86 hs_87 => ?_)
      refine SL.nil ?_
      have htt_ := heads_tot (Ls := left) (n := n) (by omega) (by omega)
      have hs_88 : SH [] w w_86 [pt g_78 #[.int .i64 (((left.getD n le0).xs.getD 0 itm0).at_), .int .i64 (((left.getD n le0).xs.getD 0 itm0).kd), .slice (((left.getD n le0).xs.getD 0 itm0).da) (((left.getD n le0).xs.getD 0 itm0).bs.length) (((left.getD n le0).xs.getD 0 itm0).dc), .int .i64 (((left.getD n le0).xs.getD 0 itm0).k0), .int .u8 (((left.getD n le0).xs.getD 0 itm0).k1), .bool (((left.getD n le0).xs.getD 0 itm0).k2), .bool (((left.getD n le0).xs.getD 0 itm0).k3), .int .i64 (((left.getD n le0).xs.getD 0 itm0).rw_), .int .i64 (((left.getD n le0).xs.getD 0 itm0).cl), .int .i64 ((n : Nat) : Int)] 46, rowH 46 10 a_81 (out ++ [(⟨((left.getD n le0).xs.getD 0 itm0), n, ((left.getD n le0).xs.getD 0 itm0).da, ((left.getD n le0).xs.getD 0 itm0).dc⟩ : Pl)]).length c_82 (pcells (out ++ [(⟨((left.getD n le0).xs.getD 0 itm0), n, ((left.getD n le0).xs.getD 0 itm0).da, ((left.getD n le0).xs.getD 0 itm0).dc⟩ : Pl)])), rowH 25 1 (some ⟨g_67, 0, none⟩) (F).length cl (ncells (left.set n ((left.getD n le0).tl)))] := hs_87.toRow (i := 0) rfl (by rw [ncells_len, List.length_set, hll]) (by rw [List.length_append, ncells_len, List.length_set]; have h_ := hl_70; rw [List.length_append, ncells_len] at h_; exact h_) hc_71 hm_72
      exact ⟨_, ⟨(left.set n (left.getD n le0).tl), (some ⟨g_67, 0, none⟩), cl, out ++ [(⟨((left.getD n le0).xs.getD 0 itm0), n, ((left.getD n le0).xs.getD 0 itm0).da, ((left.getD n le0).xs.getD 0 itm0).dc⟩ : Pl)], a_81, c_82, rfl, (hs_88.pick [2, 1] rfl), (by rw [List.length_set]; exact hll), (lfc_set hLF (by omega) (by omega)), (fun l hl => by have h_ := hrel _ (mrel_take (by omega) (by omega) hmin9 hl); unfold ordP at h_ ⊢; rw [List.map_append]; simpa using h_), (by have h_ := heads_tot (Ls := left) (n := n) (by omega) (by omega); rw [List.length_append, List.length_cons, List.length_nil]; omega), (fun p hp => by rcases List.mem_append.1 hp with h_ | h_; exact hpa p h_; rcases List.mem_singleton.1 h_ with rfl; exact ⟨rfl, rfl⟩), (by kernel_rfl), (by kernel_rfl), (by kernel_rfl)⟩, by omega⟩
end Go.Proofs.Ytaelmkkobjdgbaa
