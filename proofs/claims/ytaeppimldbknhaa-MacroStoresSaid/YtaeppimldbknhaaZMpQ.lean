/-
  Define of the document's macros (gen_mpq.py).
-/
import Derived.Test.YtaeppimldbknhaaZMpP
namespace Go.Proofs.Ytaeppimldbknhaa
set_option linter.unusedSimpArgs false
set_option linter.unusedVariables false
open Go.RowKit Go.Maps
set_option linter.unusedVariables false

theorem defR_arg {l : List Mac} {i : Int} {c h : Bool} {d : List UInt8} (h0 : i < 0 ∨ 63 < i) : defR l i c h d = (l, 1) := by unfold defR; rw [if_pos h0]
theorem defR_err {l : List Mac} {i : Int} {c h : Bool} {d t : List UInt8} {e : Int} (h0 : ¬ (i < 0 ∨ 63 < i)) (ht : textR h d (leftL l i c) = (t, e)) (he : e ≠ 0) : defR l i c h d = (l, e) := by
  unfold defR; rw [if_neg h0, ht, if_pos he]
theorem defR_full {l : List Mac} {i : Int} {c h : Bool} {d t : List UInt8} (h0 : ¬ (i < 0 ∨ 63 < i)) (ht : textR h d (leftL l i c) = (t, 0)) (hf : leftL l i c < t.length) : defR l i c h d = (l, 5) := by
  unfold defR; rw [if_neg h0, ht, if_neg (by simp), if_pos hf]
theorem defR_put {l : List Mac} {i : Int} {c h : Bool} {d t : List UInt8} (h0 : ¬ (i < 0 ∨ 63 < i)) (ht : textR h d (leftL l i c) = (t, 0)) (hf : t.length ≤ leftL l i c) : defR l i c h d = (putL l i c t, 0) := by
  unfold defR; rw [if_neg h0, ht, if_neg (by simp), if_neg (by show ¬ _ < t.length; omega)]
theorem befL_app (l m : List Mac) (i : Int) : befL (l ++ m) i = befL l i ++ befL m i := List.filter_append ..
theorem behL_app (l m : List Mac) (i : Int) : behL (l ++ m) i = behL l i ++ behL m i := List.filter_append ..
theorem befL_one (p : Mac) (i : Int) : befL [p] i = if p.1 < i then [p] else [] := by
  unfold befL; by_cases h : p.1 < i <;> simp [h]
theorem behL_one (p : Mac) (i : Int) : behL [p] i = if i < p.1 then [p] else [] := by
  unfold behL; by_cases h : i < p.1 <;> simp [h]
theorem bef_step {l X : List Mac} {k : Nat} {i : Int} (h : k < l.length) (hX : X = befL (l.take k) i) (hi : (l.getD k mac0).1 < i) : X ++ [(l.getD k mac0)] = befL (l.take (k + 1)) i := by
  rw [getD_take h, befL_app, befL_one, if_pos hi, hX]
theorem bef_stay {l X : List Mac} {k : Nat} {i : Int} (h : k < l.length) (hX : X = befL (l.take k) i) (hi : ¬ (l.getD k mac0).1 < i) : X = befL (l.take (k + 1)) i := by
  rw [getD_take h, befL_app, befL_one, if_neg hi, hX, List.append_nil]
theorem beh_step {l X : List Mac} {k : Nat} {i : Int} (h : k < l.length) (hX : X = behL (l.take k) i) (hi : i < (l.getD k mac0).1) : X ++ [(l.getD k mac0)] = behL (l.take (k + 1)) i := by
  rw [getD_take h, behL_app, behL_one, if_pos hi, hX]
theorem beh_stay {l X : List Mac} {k : Nat} {i : Int} (h : k < l.length) (hX : X = behL (l.take k) i) (hi : ¬ i < (l.getD k mac0).1) : X = behL (l.take (k + 1)) i := by
  rw [getD_take h, behL_app, behL_one, if_neg hi, hX, List.append_nil]
theorem left_eq {l X Y : List Mac} {i : Int} {c : Bool} (h : MacOk l) (hX : X = befL (bif c then [] else l) i) (hY : Y = behL (bif c then [] else l) i) : (6144 - ((usedL X : Nat) : Int)) - ((usedL Y : Nat) : Int) = ((leftL l i c : Nat) : Int) ∧ leftL l i c ≤ 6144 ∧ usedL X ≤ 6144 ∧ usedL Y ≤ 6144 := by
  have hr := rise_bif h.rise c
  have hu : usedL (bif c then [] else l) ≤ 6144 := by
    cases c
    · exact h.used
    · simp [usedL]
  have h4 : usedL X + usedL Y ≤ 6144 := by
    rw [hX, hY, ← usedL_app, ← delL_split hr]
    exact Nat.le_trans (usedL_filter _ _) hu
  unfold leftL restL
  rw [delL_split hr, usedL_app, ← hX, ← hY]
  omega
theorem put_eq1 {l X Y : List Mac} {i : Int} {c : Bool} {t : List UInt8} (hX : X = befL (bif c then [] else l) i) (hY : Y = behL (bif c then [] else l) i) (ht : t ≠ []) : (X ++ [(i, t)]) ++ Y = putL l i c t := by
  unfold putL; rw [if_neg ht, ← hX, ← hY]; simp
theorem put_eq0 {l X Y : List Mac} {i : Int} {c : Bool} {t : List UInt8} (hX : X = befL (bif c then [] else l) i) (hY : Y = behL (bif c then [] else l) i) (ht : t = []) : X ++ Y = putL l i c t := by
  unfold putL; rw [if_pos ht, ← hX, ← hY]; simp
theorem rdecode_n (d : List UInt8) (n : Nat) (w : World) (hl : d.length ≤ 400000) (hn : n ≤ 400000) :
    Calls Try.prog 10 #[.string (bsl d), .int .i64 ((n : Nat) : Int)] w fun e w' => e = .returned (.tuple #[.string (bsl (decR d n []).1), .int .i64 (decR d n []).2]) ∧ Gr w w' := by
  have := rdecode_any d ((n : Nat) : Int) w hl (by omega)
  rw [Int.toNat_natCast] at this
  exact this
set_option maxRecDepth 100000 in
set_option maxHeartbeats 4000000 in
theorem rdef_tr (a : Option Addr) (ca : Nat) (l : List Mac) (i : Int) (cl hx : Bool) (d : List UInt8) (w : World) (hk9 : MacOk l) (hd9 : d.length ≤ 10000) : Tr Try.prog 35 #[.slice a ((l).length) ca, .int .i64 i, .bool cl, .bool hx, .string (bsl d)] w [rowH 77 2 a (l).length ca (mcells l)] (fun v Q => ((defR l i cl hx d).2 ≠ 0 ∧ v = .tuple #[.slice a (l).length ca, .int .i64 (defR l i cl hx d).2] ∧ Q = [rowH 77 2 a (l).length ca (mcells l)]) ∨ ((defR l i cl hx d).2 = 0 ∧ ∃ m a2 c2, m = (defR l i cl hx d).1 ∧ v = .tuple #[.slice a2 (m).length c2, .int .i64 0] ∧ Q = [rowH 77 2 a2 (m).length c2 (mcells m), rowH 77 2 a (l).length ca (mcells l)])) := by
  have hn9 := rise_len hk9
  obtain ⟨D9, hD9⟩ : ∃ D9, D9 = defR l i cl hx d := ⟨_, rfl⟩
  rw [← hD9]
  refine Tr.of fun U hs0 => ?_
  refine calls_sx (n := 97) (args := [.slice a ((l).length) ca, .int .i64 i, .bool cl, .bool hx, .string (bsl d)]) Try.func35 rfl rfl rfl ?_
  refine CW.seq ?_
  refine CW.region ?_
  refine SL.v (.slice none 0 0) ?_
  refine SL.v (.int .i64 0) ?_
  refine SL.nil ?_
  refine CW.seq ?_
  refine CW.seq ?_
  refine CW.region ?_
  refine SL.v (.int .i64 i) ?_
  refine SL.v (.bool (decide (i < 0))) ?_
  refine SL.v (.bool (decide (i < 0))) ?_
  rcases Bool.eq_false_or_eq_true (decide (i < 0)) with hb_1 | hb_1
  · try rw [hb_1]
    have hqhb_1 := of_decide_eq_true hb_1
    refine SL.no true ?_
    refine SL.no true ?_
    refine SL.v (.bool true) ?_
    refine SL.nil ?_
    refine CW.cond_true (by kernel_rfl) ?_
    refine CW.seq ?_
    refine CW.region ?_
    refine SL.v (.slice a ((l).length) ca) ?_
    refine SL.v (.slice a ((l).length) ca) ?_
    refine SL.v (.int .i64 1) ?_
    refine SL.nil ?_
    refine CW.ret ?_
    repeat with_reducible first | refine PThen.ret ?_ | refine PBlock.ret ?_
    refine PRet.tmp2 (t := 10) (u := 11) (v := .slice a ((l).length) ca) (v' := .int .i64 1) rfl rfl rfl (by kernel_rfl) (by kernel_rfl) ?_
    have hd_ : D9 = (l, 1) := hD9.trans (defR_arg (by omega))
    rw [hd_]
    exact ⟨_, _, rfl, .inl ⟨(by simp), rfl, rfl⟩, hs0.pick [0] rfl⟩
  · try rw [hb_1]
    have hqhb_1 := of_decide_eq_false hb_1
    refine SL.go ?_
    refine SL.v (.int .i64 i) ?_
    refine SL.go ?_
    refine SL.v (.bool (decide (63 < i))) ?_
    refine SL.v (.bool (decide (63 < i))) ?_
    refine SL.nil ?_
    rcases Bool.eq_false_or_eq_true (decide (63 < i)) with hb_2 | hb_2
    · try rw [hb_2]
      have hqhb_2 := of_decide_eq_true hb_2
      refine CW.cond_true (by kernel_rfl) ?_
      refine CW.seq ?_
      refine CW.region ?_
      refine SL.v (.slice a ((l).length) ca) ?_
      refine SL.v (.slice a ((l).length) ca) ?_
      refine SL.v (.int .i64 1) ?_
      refine SL.nil ?_
      refine CW.ret ?_
      repeat with_reducible first | refine PThen.ret ?_ | refine PBlock.ret ?_
      refine PRet.tmp2 (t := 10) (u := 11) (v := .slice a ((l).length) ca) (v' := .int .i64 1) rfl rfl rfl (by kernel_rfl) (by kernel_rfl) ?_
      have hd_ : D9 = (l, 1) := hD9.trans (defR_arg (by omega))
      rw [hd_]
      exact ⟨_, _, rfl, .inl ⟨(by simp), rfl, rfl⟩, hs0.pick [0] rfl⟩
    · try rw [hb_2]
      have hqhb_2 := of_decide_eq_false hb_2
      refine CW.cond_false (by kernel_rfl) ?_
      refine CW.skip ?_
      refine CW.seq ?_
      refine CW.region ?_
      refine SL.v (.slice none 0 0) ?_
      refine SL.v (.slice none 0 0) ?_
      refine SL.nil ?_
      refine CW.seq ?_
      refine CW.seq ?_
      refine CW.region ?_
      refine SL.v (.int .i64 0) ?_
      refine SL.nil ?_
      refine CW.block ?_
      have hs_3 := (hs0.row0 77 2).row0 77 2
      have hs_4 : SH U w w [rowH 77 2 a (l).length ca (mcells l), rowH 77 2 none (([] : List Mac)).length 0 (mcells ([] : List Mac)), rowH 77 2 none (([] : List Mac)).length 0 (mcells ([] : List Mac))] := hs_3
      refine CW.loopI (fun m_ e9 w9 => ∃ (k : Nat), ∃ (X : List Mac), ∃ (Y : List Mac), ∃ (ax : Option Addr), ∃ (cx : Nat), ∃ (ay : Option Addr), ∃ (cy : Nat), m_ = (l).length - k ∧ SH U w w9 [rowH 77 2 a (l).length ca (mcells l), rowH 77 2 ax (X).length cx (mcells X), rowH 77 2 ay (Y).length cy (mcells Y)] ∧ (k ≤ (l).length) ∧ (X = befL (l.take k) i) ∧ (Y = behL (l.take k) i) ∧ (X.length ≤ k) ∧ (Y.length ≤ k) ∧ (cl = true → k = 0) ∧ e9 0 = .slice a ((l).length) ca ∧ e9 1 = .int .i64 i ∧ e9 2 = .bool cl ∧ e9 3 = .bool hx ∧ e9 4 = .string (bsl d) ∧ e9 10 = .slice none 0 0 ∧ e9 11 = .int .i64 0 ∧ e9 12 = .slice ax ((X).length) cx ∧ e9 13 = .slice ay ((Y).length) cy ∧ e9 14 = .int .i64 ((k : Nat) : Int)) ⟨_, 0, [], [], none, 0, none, 0, rfl, hs_4, (Nat.zero_le _), rfl, rfl, (Nat.zero_le _), (Nat.zero_le _), (fun _ => rfl), (by kernel_rfl), (by kernel_rfl), (by kernel_rfl), (by kernel_rfl), (by kernel_rfl), (by kernel_rfl), (by kernel_rfl), (by kernel_rfl), (by kernel_rfl), (by kernel_rfl)⟩ ?_
      rintro m_5 e_6 w_7 ⟨k, X, Y, ax, cx, ay, cy, hm_9, hs_8, hk, hX, hY, hXl, hYl, hcl, hv_10, hv_11, hv_12, hv_13, hv_14, hv_15, hv_16, hv_17, hv_18, hv_19⟩
      obtain ⟨e_20, rfl⟩ : ∃ e_20, e_6 = put1 (put1 (put1 (put1 (put1 (put1 (put1 (put1 (put1 (put1 e_20 0 (.slice a ((l).length) ca)) 1 (.int .i64 i)) 2 (.bool cl)) 3 (.bool hx)) 4 (.string (bsl d))) 10 (.slice none 0 0)) 11 (.int .i64 0)) 12 (.slice ax ((X).length) cx)) 13 (.slice ay ((Y).length) cy)) 14 (.int .i64 ((k : Nat) : Int)) := ⟨e_6, (put_self hv_19).trans (congrArg (fun z => put1 z 14 (.int .i64 ((k : Nat) : Int))) ((put_self hv_18).trans (congrArg (fun z => put1 z 13 (.slice ay ((Y).length) cy)) ((put_self hv_17).trans (congrArg (fun z => put1 z 12 (.slice ax ((X).length) cx)) ((put_self hv_16).trans (congrArg (fun z => put1 z 11 (.int .i64 0)) ((put_self hv_15).trans (congrArg (fun z => put1 z 10 (.slice none 0 0)) ((put_self hv_14).trans (congrArg (fun z => put1 z 4 (.string (bsl d))) ((put_self hv_13).trans (congrArg (fun z => put1 z 3 (.bool hx)) ((put_self hv_12).trans (congrArg (fun z => put1 z 2 (.bool cl)) ((put_self hv_11).trans (congrArg (fun z => put1 z 1 (.int .i64 i)) (put_self hv_10))))))))))))))))))⟩
      clear hv_10 hv_11 hv_12 hv_13 hv_14 hv_15 hv_16 hv_17 hv_18 hv_19
      refine CW.seq ?_
      refine CW.seq ?_
      refine CW.region ?_
      refine SL.v (.int .i64 ((k : Nat) : Int)) ?_
      refine SL.v (.slice a ((l).length) ca) ?_
      refine SL.val (v := .int .i64 (((l).length : Nat) : Int)) (w' := w_7) rfl rfl (by kernel_rfl) ?_
      refine SL.v (.bool (decide (((k : Nat) : Int) < (((l).length : Nat) : Int)))) ?_
      refine SL.v (.bool (decide (((k : Nat) : Int) < (((l).length : Nat) : Int)))) ?_
      rcases Bool.eq_false_or_eq_true (decide (((k : Nat) : Int) < (((l).length : Nat) : Int))) with hb_21 | hb_21
      · try rw [hb_21]
        have hqhb_21 := of_decide_eq_true hb_21
        refine SL.go ?_
        refine SL.v (.bool cl) ?_
        refine SL.go ?_
        refine SL.v (.bool (!cl)) ?_
        refine SL.v (.bool (!cl)) ?_
        refine SL.nil ?_
        rcases Bool.eq_false_or_eq_true (cl) with hb_22 | hb_22
        · try rw [hb_22]
          refine CW.cond_false (by kernel_rfl) ?_
          refine CW.exit ?_
          repeat with_reducible first | refine PThen.exit ?_ | refine PBlock.out rfl ?_
          with_reducible refine PBlock.here ?_
          repeat with_reducible refine PBlock.normal ?_
          refine CW.seq ?_
          refine CW.region ?_
          refine SL.v (.slice ax ((X).length) cx) ?_
          have hbe_ : l.take k = (bif cl then [] else l) := by
            cases cl with
            | true => have := hcl rfl; subst this; rfl
            | false => cases hb_22
          have hX9 : X = befL (bif cl then [] else l) i := by rw [← hbe_]; exact hX
          have hY9 : Y = behL (bif cl then [] else l) i := by rw [← hbe_]; exact hY
          obtain ⟨hleft, hl6, hx6, hy6⟩ := left_eq hk9 hX9 hY9
          refine SL.callH (f := 37) (args := #[.slice ax ((X).length) cx]) (Pre := [rowH 77 2 ax (X).length cx (mcells X)]) (Rest := [rowH 77 2 a (l).length ca (mcells l), rowH 77 2 ay (Y).length cy (mcells Y)]) [1] hs_8 rfl rfl (by kernel_rfl) rfl (rused_tr ax cx X w_7 (by omega) (by omega)) ?_
          rintro v_ Q_ w_23 ⟨rfl, rfl⟩ hs_25
          have hs_25 : SH U w w_23 [rowH 77 2 ax (X).length cx (mcells X), rowH 77 2 a (l).length ca (mcells l), rowH 77 2 ay (Y).length cy (mcells Y)] := hs_25
          refine SL.val (v := .int .i64 (6144 - ((usedL X : Nat) : Int))) (w' := w_23) rfl rfl (by have hw : IntKind.i64.wrap (6144 - ((usedL X : Nat) : Int)) = 6144 - ((usedL X : Nat) : Int) := IntWalk.i64_in _ (by omega); exact run_eqv (by kernel_rfl) (congrArg (fun z => Value.int .i64 z) hw)) ?_
          refine SL.v (.slice ay ((Y).length) cy) ?_
          refine SL.callH (f := 37) (args := #[.slice ay ((Y).length) cy]) (Pre := [rowH 77 2 ay (Y).length cy (mcells Y)]) (Rest := [rowH 77 2 ax (X).length cx (mcells X), rowH 77 2 a (l).length ca (mcells l)]) [2] hs_25 rfl rfl (by kernel_rfl) rfl (rused_tr ay cy Y w_23 (by omega) (by omega)) ?_
          rintro v_ Q_ w_26 ⟨rfl, rfl⟩ hs_28
          have hs_28 : SH U w w_26 [rowH 77 2 ay (Y).length cy (mcells Y), rowH 77 2 ax (X).length cx (mcells X), rowH 77 2 a (l).length ca (mcells l)] := hs_28
          refine SL.val (v := .int .i64 ((leftL l i cl : Nat) : Int)) (w' := w_26) rfl rfl (by have hw : IntKind.i64.wrap ((6144 - ((usedL X : Nat) : Int)) - ((usedL Y : Nat) : Int)) = ((leftL l i cl : Nat) : Int) := (IntWalk.i64_in _ (by omega)).trans hleft; exact run_eqv (by kernel_rfl) (congrArg (fun z => Value.int .i64 z) hw)) ?_
          refine SL.v (.int .i64 ((leftL l i cl : Nat) : Int)) ?_
          refine SL.nil ?_
          refine CW.seq ?_
          refine CW.seq ?_
          refine CW.region ?_
          refine SL.v (.bool hx) ?_
          refine SL.nil ?_
          rcases Bool.eq_false_or_eq_true (hx) with hb_29 | hb_29
          · try rw [hb_29]
            refine CW.cond_true (by kernel_rfl) ?_
            refine CW.seq ?_
            refine CW.region ?_
            refine SL.v (.string (bsl d)) ?_
            refine SL.v (.int .i64 ((leftL l i cl : Nat) : Int)) ?_
            refine SL.call (f := 10) (args := #[.string (bsl d), .int .i64 ((leftL l i cl : Nat) : Int)]) (w1 := w_26) rfl rfl (by kernel_rfl) (rdecode_n d (leftL l i cl) w_26 (by omega) (by omega)) ?_
            rintro x w_30 ⟨rfl, hc_31⟩
            refine ⟨.tuple #[.string (bsl ((decR d (leftL l i cl) []).1)), .int .i64 ((decR d (leftL l i cl) []).2)], rfl, ?_⟩
            have hs_32 := hs_28.grow hc_31
            refine SL.v (.tuple #[.string (bsl ((decR d (leftL l i cl) []).1)), .int .i64 ((decR d (leftL l i cl) []).2)]) ?_
            refine SL.v (.string (bsl ((decR d (leftL l i cl) []).1))) ?_
            refine SL.v (.int .i64 ((decR d (leftL l i cl) []).2)) ?_
            refine SL.v (.string (bsl ((decR d (leftL l i cl) []).1))) ?_
            refine SL.v (.int .i64 ((decR d (leftL l i cl) []).2)) ?_
            refine SL.nil ?_
            refine CW.seq ?_
            refine CW.seq ?_
            refine CW.region ?_
            refine SL.v (.int .i64 ((decR d (leftL l i cl) []).2)) ?_
            refine SL.v (.bool (!(((decR d (leftL l i cl) []).2) == 0))) ?_
            refine SL.nil ?_
            rcases Bool.eq_false_or_eq_true (((decR d (leftL l i cl) []).2) == 0) with hb_33 | hb_33
            · try rw [hb_33]
              refine CW.cond_false (by kernel_rfl) ?_
              refine CW.skip ?_
              refine CW.region ?_
              refine SL.v (.string (bsl ((decR d (leftL l i cl) []).1))) ?_
              refine SL.v (.string (bsl ((decR d (leftL l i cl) []).1))) ?_
              refine SL.nil ?_
              refine CW.seq ?_
              refine CW.seq ?_
              refine CW.region ?_
              refine SL.v (.string (bsl ((decR d (leftL l i cl) []).1))) ?_
              refine SL.val (v := .int .i64 ((((decR d (leftL l i cl) []).1).length : Nat) : Int)) (w' := w_30) rfl rfl (run_slen rfl (by kernel_rfl) (by kernel_rfl) (bsl_size _)) ?_
              refine SL.v (.int .i64 ((leftL l i cl : Nat) : Int)) ?_
              refine SL.v (.bool (decide (((leftL l i cl : Nat) : Int) < ((((decR d (leftL l i cl) []).1).length : Nat) : Int)))) ?_
              refine SL.nil ?_
              rcases Bool.eq_false_or_eq_true (decide (((leftL l i cl : Nat) : Int) < ((((decR d (leftL l i cl) []).1).length : Nat) : Int))) with hb_34 | hb_34
              · try rw [hb_34]
                have hqhb_34 := of_decide_eq_true hb_34
                refine CW.cond_true (by kernel_rfl) ?_
                refine CW.seq ?_
                refine CW.region ?_
                refine SL.v (.slice a ((l).length) ca) ?_
                refine SL.v (.slice a ((l).length) ca) ?_
                refine SL.v (.int .i64 5) ?_
                refine SL.nil ?_
                refine CW.ret ?_
                repeat with_reducible first | refine PThen.ret ?_ | refine PBlock.ret ?_
                refine PRet.tmp2 (t := 10) (u := 11) (v := .slice a ((l).length) ca) (v' := .int .i64 5) rfl rfl rfl (by kernel_rfl) (by kernel_rfl) ?_
                have hz9 : (decR d (leftL l i cl) []).2 = 0 := by simpa using hb_33
                have hd_ : D9 = (l, 5) := hD9.trans (defR_full (t := (decR d (leftL l i cl) []).1) (by omega) (by rw [hb_29]; show decR d (leftL l i cl) [] = _; exact Prod.ext rfl hz9) (by omega))
                rw [hd_]
                exact ⟨_, _, rfl, .inl ⟨(by simp), rfl, rfl⟩, hs_32.pick [2] rfl⟩
              · try rw [hb_34]
                have hqhb_34 := of_decide_eq_false hb_34
                refine CW.cond_false (by kernel_rfl) ?_
                refine CW.skip ?_
                refine CW.seq ?_
                refine CW.seq ?_
                refine CW.region ?_
                refine SL.v (.string (bsl ((decR d (leftL l i cl) []).1))) ?_
                refine SL.val (v := .bool (!(seqB (bsl ((decR d (leftL l i cl) []).1)) ⟨#[]⟩))) (w' := w_30) rfl rfl (run_strneB (a := bsl ((decR d (leftL l i cl) []).1)) (b := ⟨#[]⟩) (c := seqB (bsl ((decR d (leftL l i cl) []).1)) ⟨#[]⟩) rfl (by kernel_rfl) (by kernel_rfl) rfl) ?_
                refine SL.nil ?_
                rcases Bool.eq_false_or_eq_true (seqB (bsl ((decR d (leftL l i cl) []).1)) ⟨#[]⟩) with hb_35 | hb_35
                · try rw [hb_35]
                  refine CW.cond_false (by kernel_rfl) ?_
                  refine CW.skip ?_
                  refine CW.seq ?_
                  refine CW.region ?_
                  refine SL.v (.slice ax ((X).length) cx) ?_
                  refine SL.v (.slice ay ((Y).length) cy) ?_
                  refine SL.appR (z := .agg #[.int .i64 0, .string ⟨#[]⟩]) (size := 2) (bytes := 24) (el := 77) (m := (Y).length) (news := mcells Y) (i := 1) (xs' := mcells (X ++ Y)) (k' := (X ++ Y).length) (L' := [rowH 77 2 ay (Y).length cy (mcells Y), rowH 77 2 a (l).length ca (mcells l)]) hs_32 rfl rfl rfl (by kernel_rfl) (by kernel_rfl) (by kernel_rfl) (by kernel_rfl) (by kernel_rfl) (by kernel_rfl) rfl rfl (srcRow (hs_32.row_at (i := 0) rfl) (by kernel_rfl) (mcells_one _)) (by (try simp only [List.length_append, List.length_cons, List.length_nil]); omega) (mcells_app X Y) (by first | (simp; done) | (simp only [List.length_append, List.length_cons, List.length_nil] <;> omega)) rfl (fun a_36 c_37 w_38 hs_39 => ?_)
                  have hs_39 : SH U w w_38 [rowH 77 2 ay (Y).length cy (mcells Y), rowH 77 2 a (l).length ca (mcells l), rowH 77 2 a_36 (X ++ Y).length c_37 (mcells (X ++ Y))] := hs_39
                  refine SL.v (.slice a_36 ((X ++ Y).length) c_37) ?_
                  refine SL.v (.int .i64 0) ?_
                  refine SL.nil ?_
                  refine CW.ret ?_
                  repeat with_reducible first | refine PThen.ret ?_ | refine PBlock.ret ?_
                  refine PRet.tmp2 (t := 10) (u := 11) (v := .slice a_36 ((X ++ Y).length) c_37) (v' := .int .i64 0) rfl rfl rfl (by kernel_rfl) (by kernel_rfl) ?_
                  have hz9 : (decR d (leftL l i cl) []).2 = 0 := by simpa using hb_33
                  have hd_ : D9 = (putL l i cl ((decR d (leftL l i cl) []).1), 0) := hD9.trans (defR_put (t := (decR d (leftL l i cl) []).1) (by omega) (by rw [hb_29]; show decR d (leftL l i cl) [] = _; exact Prod.ext rfl hz9) (by omega))
                  rw [seqB_nil] at hb_35
                  have hp_ := put_eq0 hX9 hY9 (of_decide_eq_true hb_35)
                  rw [hd_]
                  exact ⟨_, _, rfl, .inr ⟨rfl, _, _, _, hp_, rfl, rfl⟩, hs_39.pick [2, 1] rfl⟩
                · try rw [hb_35]
                  refine CW.cond_true (by kernel_rfl) ?_
                  refine CW.region ?_
                  refine SL.v (.slice ax ((X).length) cx) ?_
                  refine SL.v (.int .i64 i) ?_
                  refine SL.v (.string (bsl ((decR d (leftL l i cl) []).1))) ?_
                  refine SL.v (.agg #[.int .i64 i, .string (bsl ((decR d (leftL l i cl) []).1))]) ?_
                  refine SL.newH (mk := fun g => .slice (some ⟨g, 0, none⟩) 1 1) (C := #[.int .i64 i, .string (bsl ((decR d (leftL l i cl) []).1))]) (T := 77) hs_32 rfl rfl (by kernel_rfl) (fun g_41 w_42 hs_43 => ?_)
                  have hs_43 : SH U w w_42 [rowH 77 2 ay (Y).length cy (mcells Y), rowH 77 2 ax (X).length cx (mcells X), rowH 77 2 a (l).length ca (mcells l), pt g_41 #[.int .i64 i, .string (bsl ((decR d (leftL l i cl) []).1))] 77] := hs_43
                  refine SL.appR (z := .agg #[.int .i64 0, .string ⟨#[]⟩]) (size := 2) (bytes := 24) (el := 77) (m := 1) (news := [.int .i64 i, .string (bsl ((decR d (leftL l i cl) []).1))]) (i := 1) (xs' := mcells (X ++ [(i, (decR d (leftL l i cl) []).1)])) (k' := (X ++ [(i, (decR d (leftL l i cl) []).1)]).length) (L' := [rowH 77 2 ay (Y).length cy (mcells Y), rowH 77 2 a (l).length ca (mcells l), pt g_41 #[.int .i64 i, .string (bsl ((decR d (leftL l i cl) []).1))] 77]) hs_43 rfl rfl rfl (by kernel_rfl) (by kernel_rfl) (by kernel_rfl) (by kernel_rfl) (by kernel_rfl) (by kernel_rfl) rfl rfl (srcH (off := 0) (cs := [.int .i64 i, .string (bsl ((decR d (leftL l i cl) []).1))]) (el := 77) (by kernel_rfl) (hs_43.pt_at (i := 3) rfl) rfl rfl (List.all_eq_true.1 (by kernel_rfl))) (by (try simp only [List.length_append, List.length_cons, List.length_nil]); omega) (mcells_app X ([(i, (decR d (leftL l i cl) []).1)])) (by first | (simp; done) | (simp only [List.length_append, List.length_cons, List.length_nil] <;> omega)) rfl (fun a_44 c_45 w_46 hs_47 => ?_)
                  have hs_47 : SH U w w_46 [rowH 77 2 ay (Y).length cy (mcells Y), rowH 77 2 a (l).length ca (mcells l), pt g_41 #[.int .i64 i, .string (bsl ((decR d (leftL l i cl) []).1))] 77, rowH 77 2 a_44 (X ++ [(i, (decR d (leftL l i cl) []).1)]).length c_45 (mcells (X ++ [(i, (decR d (leftL l i cl) []).1)]))] := hs_47
                  refine SL.v (.slice a_44 ((X ++ [(i, (decR d (leftL l i cl) []).1)]).length) c_45) ?_
                  refine SL.nil ?_
                  refine CW.seq ?_
                  refine CW.region ?_
                  refine SL.v (.slice a_44 ((X ++ [(i, (decR d (leftL l i cl) []).1)]).length) c_45) ?_
                  refine SL.v (.slice ay ((Y).length) cy) ?_
                  refine SL.appR (z := .agg #[.int .i64 0, .string ⟨#[]⟩]) (size := 2) (bytes := 24) (el := 77) (m := (Y).length) (news := mcells Y) (i := 3) (xs' := mcells ((X ++ [(i, (decR d (leftL l i cl) []).1)]) ++ Y)) (k' := ((X ++ [(i, (decR d (leftL l i cl) []).1)]) ++ Y).length) (L' := [rowH 77 2 ay (Y).length cy (mcells Y), rowH 77 2 a (l).length ca (mcells l), pt g_41 #[.int .i64 i, .string (bsl ((decR d (leftL l i cl) []).1))] 77]) hs_47 rfl rfl rfl (by kernel_rfl) (by kernel_rfl) (by kernel_rfl) (by kernel_rfl) (by kernel_rfl) (by kernel_rfl) rfl rfl (srcRow (hs_47.row_at (i := 0) rfl) (by kernel_rfl) (mcells_one _)) (by (try simp only [List.length_append, List.length_cons, List.length_nil]); omega) (mcells_app (X ++ [(i, (decR d (leftL l i cl) []).1)]) Y) (by first | (simp; done) | (simp only [List.length_append, List.length_cons, List.length_nil] <;> omega)) rfl (fun a_49 c_50 w_51 hs_52 => ?_)
                  have hs_52 : SH U w w_51 [rowH 77 2 ay (Y).length cy (mcells Y), rowH 77 2 a (l).length ca (mcells l), pt g_41 #[.int .i64 i, .string (bsl ((decR d (leftL l i cl) []).1))] 77, rowH 77 2 a_49 ((X ++ [(i, (decR d (leftL l i cl) []).1)]) ++ Y).length c_50 (mcells ((X ++ [(i, (decR d (leftL l i cl) []).1)]) ++ Y))] := hs_52
                  refine SL.v (.slice a_49 (((X ++ [(i, (decR d (leftL l i cl) []).1)]) ++ Y).length) c_50) ?_
                  refine SL.v (.int .i64 0) ?_
                  refine SL.nil ?_
                  refine CW.ret ?_
                  repeat with_reducible first | refine PThen.ret ?_ | refine PBlock.ret ?_
                  refine PRet.tmp2 (t := 10) (u := 11) (v := .slice a_49 (((X ++ [(i, (decR d (leftL l i cl) []).1)]) ++ Y).length) c_50) (v' := .int .i64 0) rfl rfl rfl (by kernel_rfl) (by kernel_rfl) ?_
                  have hz9 : (decR d (leftL l i cl) []).2 = 0 := by simpa using hb_33
                  have hd_ : D9 = (putL l i cl ((decR d (leftL l i cl) []).1), 0) := hD9.trans (defR_put (t := (decR d (leftL l i cl) []).1) (by omega) (by rw [hb_29]; show decR d (leftL l i cl) [] = _; exact Prod.ext rfl hz9) (by omega))
                  rw [seqB_nil] at hb_35
                  have hp_ := put_eq1 hX9 hY9 (of_decide_eq_false hb_35)
                  rw [hd_]
                  exact ⟨_, _, rfl, .inr ⟨rfl, _, _, _, hp_, rfl, rfl⟩, hs_52.pick [3, 1] rfl⟩
            · try rw [hb_33]
              refine CW.cond_true (by kernel_rfl) ?_
              refine CW.seq ?_
              refine CW.region ?_
              refine SL.v (.slice a ((l).length) ca) ?_
              refine SL.v (.int .i64 ((decR d (leftL l i cl) []).2)) ?_
              refine SL.v (.slice a ((l).length) ca) ?_
              refine SL.v (.int .i64 ((decR d (leftL l i cl) []).2)) ?_
              refine SL.nil ?_
              refine CW.ret ?_
              repeat with_reducible first | refine PThen.ret ?_ | refine PBlock.ret ?_
              refine PRet.tmp2 (t := 10) (u := 11) (v := .slice a ((l).length) ca) (v' := .int .i64 ((decR d (leftL l i cl) []).2)) rfl rfl rfl (by kernel_rfl) (by kernel_rfl) ?_
              have hz9 : (decR d (leftL l i cl) []).2 ≠ 0 := by simpa using hb_33
              have hd_ : D9 = (l, (decR d (leftL l i cl) []).2) := hD9.trans (defR_err (t := (decR d (leftL l i cl) []).1) (by omega) (by rw [hb_29]; rfl) hz9)
              rw [hd_]
              exact ⟨_, _, rfl, .inl ⟨hz9, rfl, rfl⟩, hs_32.pick [2] rfl⟩
          · try rw [hb_29]
            refine CW.cond_false (by kernel_rfl) ?_
            refine CW.skip ?_
            refine CW.seq ?_
            refine CW.seq ?_
            refine CW.region ?_
            refine SL.v (.string (bsl d)) ?_
            refine SL.val (v := .int .i64 ((d.length : Nat) : Int)) (w' := w_26) rfl rfl (run_slen rfl (by kernel_rfl) (by kernel_rfl) (bsl_size _)) ?_
            refine SL.v (.int .i64 ((leftL l i cl : Nat) : Int)) ?_
            refine SL.v (.bool (decide (((leftL l i cl : Nat) : Int) < ((d.length : Nat) : Int)))) ?_
            refine SL.nil ?_
            rcases Bool.eq_false_or_eq_true (decide (((leftL l i cl : Nat) : Int) < ((d.length : Nat) : Int))) with hb_54 | hb_54
            · try rw [hb_54]
              have hqhb_54 := of_decide_eq_true hb_54
              refine CW.cond_true (by kernel_rfl) ?_
              refine CW.seq ?_
              refine CW.region ?_
              refine SL.v (.slice a ((l).length) ca) ?_
              refine SL.v (.slice a ((l).length) ca) ?_
              refine SL.v (.int .i64 5) ?_
              refine SL.nil ?_
              refine CW.ret ?_
              repeat with_reducible first | refine PThen.ret ?_ | refine PBlock.ret ?_
              refine PRet.tmp2 (t := 10) (u := 11) (v := .slice a ((l).length) ca) (v' := .int .i64 5) rfl rfl rfl (by kernel_rfl) (by kernel_rfl) ?_
              have hd_ : D9 = (l, 5) := hD9.trans (defR_full (t := d) (by omega) (by rw [hb_29]; rfl) (by omega))
              rw [hd_]
              exact ⟨_, _, rfl, .inl ⟨(by simp), rfl, rfl⟩, hs_28.pick [2] rfl⟩
            · try rw [hb_54]
              have hqhb_54 := of_decide_eq_false hb_54
              refine CW.cond_false (by kernel_rfl) ?_
              refine CW.skip ?_
              refine CW.seq ?_
              refine CW.seq ?_
              refine CW.region ?_
              refine SL.v (.string (bsl d)) ?_
              refine SL.val (v := .bool (!(seqB (bsl d) ⟨#[]⟩))) (w' := w_26) rfl rfl (run_strneB (a := bsl d) (b := ⟨#[]⟩) (c := seqB (bsl d) ⟨#[]⟩) rfl (by kernel_rfl) (by kernel_rfl) rfl) ?_
              refine SL.nil ?_
              rcases Bool.eq_false_or_eq_true (seqB (bsl d) ⟨#[]⟩) with hb_55 | hb_55
              · try rw [hb_55]
                refine CW.cond_false (by kernel_rfl) ?_
                refine CW.skip ?_
                refine CW.seq ?_
                refine CW.region ?_
                refine SL.v (.slice ax ((X).length) cx) ?_
                refine SL.v (.slice ay ((Y).length) cy) ?_
                refine SL.appR (z := .agg #[.int .i64 0, .string ⟨#[]⟩]) (size := 2) (bytes := 24) (el := 77) (m := (Y).length) (news := mcells Y) (i := 1) (xs' := mcells (X ++ Y)) (k' := (X ++ Y).length) (L' := [rowH 77 2 ay (Y).length cy (mcells Y), rowH 77 2 a (l).length ca (mcells l)]) hs_28 rfl rfl rfl (by kernel_rfl) (by kernel_rfl) (by kernel_rfl) (by kernel_rfl) (by kernel_rfl) (by kernel_rfl) rfl rfl (srcRow (hs_28.row_at (i := 0) rfl) (by kernel_rfl) (mcells_one _)) (by (try simp only [List.length_append, List.length_cons, List.length_nil]); omega) (mcells_app X Y) (by first | (simp; done) | (simp only [List.length_append, List.length_cons, List.length_nil] <;> omega)) rfl (fun a_56 c_57 w_58 hs_59 => ?_)
                have hs_59 : SH U w w_58 [rowH 77 2 ay (Y).length cy (mcells Y), rowH 77 2 a (l).length ca (mcells l), rowH 77 2 a_56 (X ++ Y).length c_57 (mcells (X ++ Y))] := hs_59
                refine SL.v (.slice a_56 ((X ++ Y).length) c_57) ?_
                refine SL.v (.int .i64 0) ?_
                refine SL.nil ?_
                refine CW.ret ?_
                repeat with_reducible first | refine PThen.ret ?_ | refine PBlock.ret ?_
                refine PRet.tmp2 (t := 10) (u := 11) (v := .slice a_56 ((X ++ Y).length) c_57) (v' := .int .i64 0) rfl rfl rfl (by kernel_rfl) (by kernel_rfl) ?_
                have hd_ : D9 = (putL l i cl (d), 0) := hD9.trans (defR_put (t := d) (by omega) (by rw [hb_29]; rfl) (by omega))
                rw [seqB_nil] at hb_55
                have hp_ := put_eq0 hX9 hY9 (of_decide_eq_true hb_55)
                rw [hd_]
                exact ⟨_, _, rfl, .inr ⟨rfl, _, _, _, hp_, rfl, rfl⟩, hs_59.pick [2, 1] rfl⟩
              · try rw [hb_55]
                refine CW.cond_true (by kernel_rfl) ?_
                refine CW.region ?_
                refine SL.v (.slice ax ((X).length) cx) ?_
                refine SL.v (.int .i64 i) ?_
                refine SL.v (.string (bsl d)) ?_
                refine SL.v (.agg #[.int .i64 i, .string (bsl d)]) ?_
                refine SL.newH (mk := fun g => .slice (some ⟨g, 0, none⟩) 1 1) (C := #[.int .i64 i, .string (bsl d)]) (T := 77) hs_28 rfl rfl (by kernel_rfl) (fun g_61 w_62 hs_63 => ?_)
                have hs_63 : SH U w w_62 [rowH 77 2 ay (Y).length cy (mcells Y), rowH 77 2 ax (X).length cx (mcells X), rowH 77 2 a (l).length ca (mcells l), pt g_61 #[.int .i64 i, .string (bsl d)] 77] := hs_63
                refine SL.appR (z := .agg #[.int .i64 0, .string ⟨#[]⟩]) (size := 2) (bytes := 24) (el := 77) (m := 1) (news := [.int .i64 i, .string (bsl d)]) (i := 1) (xs' := mcells (X ++ [(i, d)])) (k' := (X ++ [(i, d)]).length) (L' := [rowH 77 2 ay (Y).length cy (mcells Y), rowH 77 2 a (l).length ca (mcells l), pt g_61 #[.int .i64 i, .string (bsl d)] 77]) hs_63 rfl rfl rfl (by kernel_rfl) (by kernel_rfl) (by kernel_rfl) (by kernel_rfl) (by kernel_rfl) (by kernel_rfl) rfl rfl (srcH (off := 0) (cs := [.int .i64 i, .string (bsl d)]) (el := 77) (by kernel_rfl) (hs_63.pt_at (i := 3) rfl) rfl rfl (List.all_eq_true.1 (by kernel_rfl))) (by (try simp only [List.length_append, List.length_cons, List.length_nil]); omega) (mcells_app X ([(i, d)])) (by first | (simp; done) | (simp only [List.length_append, List.length_cons, List.length_nil] <;> omega)) rfl (fun a_64 c_65 w_66 hs_67 => ?_)
                have hs_67 : SH U w w_66 [rowH 77 2 ay (Y).length cy (mcells Y), rowH 77 2 a (l).length ca (mcells l), pt g_61 #[.int .i64 i, .string (bsl d)] 77, rowH 77 2 a_64 (X ++ [(i, d)]).length c_65 (mcells (X ++ [(i, d)]))] := hs_67
                refine SL.v (.slice a_64 ((X ++ [(i, d)]).length) c_65) ?_
                refine SL.nil ?_
                refine CW.seq ?_
                refine CW.region ?_
                refine SL.v (.slice a_64 ((X ++ [(i, d)]).length) c_65) ?_
                refine SL.v (.slice ay ((Y).length) cy) ?_
                refine SL.appR (z := .agg #[.int .i64 0, .string ⟨#[]⟩]) (size := 2) (bytes := 24) (el := 77) (m := (Y).length) (news := mcells Y) (i := 3) (xs' := mcells ((X ++ [(i, d)]) ++ Y)) (k' := ((X ++ [(i, d)]) ++ Y).length) (L' := [rowH 77 2 ay (Y).length cy (mcells Y), rowH 77 2 a (l).length ca (mcells l), pt g_61 #[.int .i64 i, .string (bsl d)] 77]) hs_67 rfl rfl rfl (by kernel_rfl) (by kernel_rfl) (by kernel_rfl) (by kernel_rfl) (by kernel_rfl) (by kernel_rfl) rfl rfl (srcRow (hs_67.row_at (i := 0) rfl) (by kernel_rfl) (mcells_one _)) (by (try simp only [List.length_append, List.length_cons, List.length_nil]); omega) (mcells_app (X ++ [(i, d)]) Y) (by first | (simp; done) | (simp only [List.length_append, List.length_cons, List.length_nil] <;> omega)) rfl (fun a_69 c_70 w_71 hs_72 => ?_)
                have hs_72 : SH U w w_71 [rowH 77 2 ay (Y).length cy (mcells Y), rowH 77 2 a (l).length ca (mcells l), pt g_61 #[.int .i64 i, .string (bsl d)] 77, rowH 77 2 a_69 ((X ++ [(i, d)]) ++ Y).length c_70 (mcells ((X ++ [(i, d)]) ++ Y))] := hs_72
                refine SL.v (.slice a_69 (((X ++ [(i, d)]) ++ Y).length) c_70) ?_
                refine SL.v (.int .i64 0) ?_
                refine SL.nil ?_
                refine CW.ret ?_
                repeat with_reducible first | refine PThen.ret ?_ | refine PBlock.ret ?_
                refine PRet.tmp2 (t := 10) (u := 11) (v := .slice a_69 (((X ++ [(i, d)]) ++ Y).length) c_70) (v' := .int .i64 0) rfl rfl rfl (by kernel_rfl) (by kernel_rfl) ?_
                have hd_ : D9 = (putL l i cl (d), 0) := hD9.trans (defR_put (t := d) (by omega) (by rw [hb_29]; rfl) (by omega))
                rw [seqB_nil] at hb_55
                have hp_ := put_eq1 hX9 hY9 (of_decide_eq_false hb_55)
                rw [hd_]
                exact ⟨_, _, rfl, .inr ⟨rfl, _, _, _, hp_, rfl, rfl⟩, hs_72.pick [3, 1] rfl⟩
        · try rw [hb_22]
          refine CW.cond_true (by kernel_rfl) ?_
          refine CW.skip ?_
          refine CW.seq ?_
          refine CW.block ?_
          refine CW.seq ?_
          refine CW.seq ?_
          refine CW.region ?_
          refine SL.v (.slice a ((l).length) ca) ?_
          refine SL.v (.int .i64 ((k : Nat) : Int)) ?_
          obtain ⟨g_74, ha_75⟩ := hs_8.row_some (i := 0) rfl (show 0 < (l).length by omega)
          refine SL.val (v := .pointer (some ⟨g_74, k * 2, none⟩)) (w' := w_7) rfl rfl (run_ixR (len := (l).length) (cap := ca) (q := .i64) (I := ((k : Nat) : Int)) (i := k) (size := 2) ha_75 rfl (by kernel_rfl) (by kernel_rfl) rfl (by kernel_rfl) (by kernel_rfl) (by omega)) ?_
          refine SL.v (.pointer (some ⟨g_74, k * 2, none⟩)) ?_
          refine SL.load (g := g_74) (off := k * 2) (v := .int .i64 ((l.getD k mac0).1)) rfl rfl rfl (by kernel_rfl) (hs_8.row_blk (i := 0) ha_75 rfl) (ldV_one (by kernel_rfl) (by kernel_rfl) (hs_8.row_one (i := 0) ha_75 rfl (mcells_get (i := k) (j := 0) (by omega) rfl))) ?_
          refine SL.v (.int .i64 i) ?_
          refine SL.v (.bool (decide (((l.getD k mac0).1) < i))) ?_
          refine SL.nil ?_
          rcases Bool.eq_false_or_eq_true (decide (((l.getD k mac0).1) < i)) with hb_76 | hb_76
          · try rw [hb_76]
            have hqhb_76 := of_decide_eq_true hb_76
            refine CW.cond_true (by kernel_rfl) ?_
            refine CW.region ?_
            refine SL.v (.slice ax ((X).length) cx) ?_
            refine SL.v (.slice a ((l).length) ca) ?_
            refine SL.v (.int .i64 ((k : Nat) : Int)) ?_
            refine SL.val (v := .pointer (some ⟨g_74, k * 2, none⟩)) (w' := w_7) rfl rfl (run_ixR (len := (l).length) (cap := ca) (q := .i64) (I := ((k : Nat) : Int)) (i := k) (size := 2) ha_75 rfl (by kernel_rfl) (by kernel_rfl) rfl (by kernel_rfl) (by kernel_rfl) (by omega)) ?_
            refine SL.load (g := g_74) (off := k * 2) (v := .agg #[.int .i64 ((l.getD k mac0).1), .string (bsl ((l.getD k mac0).2))]) rfl rfl rfl (by kernel_rfl) (hs_8.row_blk (i := 0) ha_75 rfl) (ldV_row (k := 2) (by kernel_rfl) (by kernel_rfl) (hs_8.row_many (i := 0) ha_75 rfl (mcells_part (i := k) (j := 0) (by omega) rfl rfl) rfl) rfl rfl) ?_
            refine SL.newH (mk := fun g => .slice (some ⟨g, 0, none⟩) 1 1) (C := #[.int .i64 ((l.getD k mac0).1), .string (bsl ((l.getD k mac0).2))]) (T := 77) hs_8 rfl rfl (by kernel_rfl) (fun g_77 w_78 hs_79 => ?_)
            have hs_79 : SH U w w_78 [rowH 77 2 a (l).length ca (mcells l), rowH 77 2 ax (X).length cx (mcells X), rowH 77 2 ay (Y).length cy (mcells Y), pt g_77 #[.int .i64 ((l.getD k mac0).1), .string (bsl ((l.getD k mac0).2))] 77] := hs_79
            refine SL.appR (z := .agg #[.int .i64 0, .string ⟨#[]⟩]) (size := 2) (bytes := 24) (el := 77) (m := 1) (news := [.int .i64 ((l.getD k mac0).1), .string (bsl ((l.getD k mac0).2))]) (i := 1) (xs' := mcells (X ++ [(l.getD k mac0)])) (k' := (X ++ [(l.getD k mac0)]).length) (L' := [rowH 77 2 a (l).length ca (mcells l), rowH 77 2 ay (Y).length cy (mcells Y), pt g_77 #[.int .i64 ((l.getD k mac0).1), .string (bsl ((l.getD k mac0).2))] 77]) hs_79 rfl rfl rfl (by kernel_rfl) (by kernel_rfl) (by kernel_rfl) (by kernel_rfl) (by kernel_rfl) (by kernel_rfl) rfl rfl (srcH (off := 0) (cs := [.int .i64 ((l.getD k mac0).1), .string (bsl ((l.getD k mac0).2))]) (el := 77) (by kernel_rfl) (hs_79.pt_at (i := 3) rfl) rfl rfl (List.all_eq_true.1 (by kernel_rfl))) (by (try simp only [List.length_append, List.length_cons, List.length_nil]); omega) (mcells_app X ([(l.getD k mac0)])) (by first | (simp; done) | (simp only [List.length_append, List.length_cons, List.length_nil] <;> omega)) rfl (fun a_80 c_81 w_82 hs_83 => ?_)
            have hs_83 : SH U w w_82 [rowH 77 2 a (l).length ca (mcells l), rowH 77 2 ay (Y).length cy (mcells Y), pt g_77 #[.int .i64 ((l.getD k mac0).1), .string (bsl ((l.getD k mac0).2))] 77, rowH 77 2 a_80 (X ++ [(l.getD k mac0)]).length c_81 (mcells (X ++ [(l.getD k mac0)]))] := hs_83
            refine SL.v (.slice a_80 ((X ++ [(l.getD k mac0)]).length) c_81) ?_
            refine SL.nil ?_
            refine CW.seq ?_
            refine CW.region ?_
            refine SL.v (.slice a ((l).length) ca) ?_
            refine SL.v (.int .i64 ((k : Nat) : Int)) ?_
            refine SL.val (v := .pointer (some ⟨g_74, k * 2, none⟩)) (w' := w_82) rfl rfl (run_ixR (len := (l).length) (cap := ca) (q := .i64) (I := ((k : Nat) : Int)) (i := k) (size := 2) ha_75 rfl (by kernel_rfl) (by kernel_rfl) rfl (by kernel_rfl) (by kernel_rfl) (by omega)) ?_
            refine SL.v (.pointer (some ⟨g_74, k * 2, none⟩)) ?_
            refine SL.load (g := g_74) (off := k * 2) (v := .int .i64 ((l.getD k mac0).1)) rfl rfl rfl (by kernel_rfl) (hs_83.row_blk (i := 0) ha_75 rfl) (ldV_one (by kernel_rfl) (by kernel_rfl) (hs_83.row_one (i := 0) ha_75 rfl (mcells_get (i := k) (j := 0) (by omega) rfl))) ?_
            refine SL.v (.int .i64 i) ?_
            refine SL.v (.bool (decide (i < ((l.getD k mac0).1)))) ?_
            refine SL.nil ?_
            rcases Bool.eq_false_or_eq_true (decide (i < ((l.getD k mac0).1))) with hb_85 | hb_85
            · try rw [hb_85]
              have hqhb_85 := of_decide_eq_true hb_85
              refine CW.cond_true (by kernel_rfl) ?_
              refine CW.region ?_
              refine SL.v (.slice ay ((Y).length) cy) ?_
              refine SL.v (.slice a ((l).length) ca) ?_
              refine SL.v (.int .i64 ((k : Nat) : Int)) ?_
              refine SL.val (v := .pointer (some ⟨g_74, k * 2, none⟩)) (w' := w_82) rfl rfl (run_ixR (len := (l).length) (cap := ca) (q := .i64) (I := ((k : Nat) : Int)) (i := k) (size := 2) ha_75 rfl (by kernel_rfl) (by kernel_rfl) rfl (by kernel_rfl) (by kernel_rfl) (by omega)) ?_
              refine SL.load (g := g_74) (off := k * 2) (v := .agg #[.int .i64 ((l.getD k mac0).1), .string (bsl ((l.getD k mac0).2))]) rfl rfl rfl (by kernel_rfl) (hs_83.row_blk (i := 0) ha_75 rfl) (ldV_row (k := 2) (by kernel_rfl) (by kernel_rfl) (hs_83.row_many (i := 0) ha_75 rfl (mcells_part (i := k) (j := 0) (by omega) rfl rfl) rfl) rfl rfl) ?_
              refine SL.newH (mk := fun g => .slice (some ⟨g, 0, none⟩) 1 1) (C := #[.int .i64 ((l.getD k mac0).1), .string (bsl ((l.getD k mac0).2))]) (T := 77) hs_83 rfl rfl (by kernel_rfl) (fun g_86 w_87 hs_88 => ?_)
              have hs_88 : SH U w w_87 [rowH 77 2 a (l).length ca (mcells l), rowH 77 2 ay (Y).length cy (mcells Y), pt g_77 #[.int .i64 ((l.getD k mac0).1), .string (bsl ((l.getD k mac0).2))] 77, rowH 77 2 a_80 (X ++ [(l.getD k mac0)]).length c_81 (mcells (X ++ [(l.getD k mac0)])), pt g_86 #[.int .i64 ((l.getD k mac0).1), .string (bsl ((l.getD k mac0).2))] 77] := hs_88
              refine SL.appR (z := .agg #[.int .i64 0, .string ⟨#[]⟩]) (size := 2) (bytes := 24) (el := 77) (m := 1) (news := [.int .i64 ((l.getD k mac0).1), .string (bsl ((l.getD k mac0).2))]) (i := 1) (xs' := mcells (Y ++ [(l.getD k mac0)])) (k' := (Y ++ [(l.getD k mac0)]).length) (L' := [rowH 77 2 a (l).length ca (mcells l), pt g_77 #[.int .i64 ((l.getD k mac0).1), .string (bsl ((l.getD k mac0).2))] 77, rowH 77 2 a_80 (X ++ [(l.getD k mac0)]).length c_81 (mcells (X ++ [(l.getD k mac0)])), pt g_86 #[.int .i64 ((l.getD k mac0).1), .string (bsl ((l.getD k mac0).2))] 77]) hs_88 rfl rfl rfl (by kernel_rfl) (by kernel_rfl) (by kernel_rfl) (by kernel_rfl) (by kernel_rfl) (by kernel_rfl) rfl rfl (srcH (off := 0) (cs := [.int .i64 ((l.getD k mac0).1), .string (bsl ((l.getD k mac0).2))]) (el := 77) (by kernel_rfl) (hs_88.pt_at (i := 4) rfl) rfl rfl (List.all_eq_true.1 (by kernel_rfl))) (by (try simp only [List.length_append, List.length_cons, List.length_nil]); omega) (mcells_app Y ([(l.getD k mac0)])) (by first | (simp; done) | (simp only [List.length_append, List.length_cons, List.length_nil] <;> omega)) rfl (fun a_89 c_90 w_91 hs_92 => ?_)
              have hs_92 : SH U w w_91 [rowH 77 2 a (l).length ca (mcells l), pt g_77 #[.int .i64 ((l.getD k mac0).1), .string (bsl ((l.getD k mac0).2))] 77, rowH 77 2 a_80 (X ++ [(l.getD k mac0)]).length c_81 (mcells (X ++ [(l.getD k mac0)])), pt g_86 #[.int .i64 ((l.getD k mac0).1), .string (bsl ((l.getD k mac0).2))] 77, rowH 77 2 a_89 (Y ++ [(l.getD k mac0)]).length c_90 (mcells (Y ++ [(l.getD k mac0)]))] := hs_92
              refine SL.v (.slice a_89 ((Y ++ [(l.getD k mac0)]).length) c_90) ?_
              refine SL.nil ?_
              refine CW.region ?_
              refine SL.v (.int .i64 ((k : Nat) : Int)) ?_
              refine SL.val (v := .int .i64 ((k + 1 : Nat) : Int)) (w' := w_91) rfl rfl (by have hw : IntKind.i64.wrap (((k : Nat) : Int) + 1) = ((k + 1 : Nat) : Int) := (IntWalk.i64_in _ (by omega)).trans (by omega); exact run_eqv (by kernel_rfl) (congrArg (fun z => Value.int .i64 z) hw)) ?_
              refine SL.v (.int .i64 ((k + 1 : Nat) : Int)) ?_
              refine SL.nil ?_
              exact ⟨_, ⟨k + 1, X ++ [(l.getD k mac0)], Y ++ [(l.getD k mac0)], a_80, c_81, a_89, c_90, rfl, (hs_92.pick [0, 1, 2] rfl), (by omega), (bef_step (by omega) hX hqhb_76), (beh_step (by omega) hY hqhb_85), (by simp only [List.length_append, List.length_cons, List.length_nil]; omega), (by simp only [List.length_append, List.length_cons, List.length_nil]; omega), (by intro h_; first | cases h_ | (rw [hb_22] at h_; cases h_)), (by kernel_rfl), (by kernel_rfl), (by kernel_rfl), (by kernel_rfl), (by kernel_rfl), (by kernel_rfl), (by kernel_rfl), (by kernel_rfl), (by kernel_rfl), (by kernel_rfl)⟩, by omega⟩
            · try rw [hb_85]
              have hqhb_85 := of_decide_eq_false hb_85
              refine CW.cond_false (by kernel_rfl) ?_
              refine CW.skip ?_
              refine CW.region ?_
              refine SL.v (.int .i64 ((k : Nat) : Int)) ?_
              refine SL.val (v := .int .i64 ((k + 1 : Nat) : Int)) (w' := w_82) rfl rfl (by have hw : IntKind.i64.wrap (((k : Nat) : Int) + 1) = ((k + 1 : Nat) : Int) := (IntWalk.i64_in _ (by omega)).trans (by omega); exact run_eqv (by kernel_rfl) (congrArg (fun z => Value.int .i64 z) hw)) ?_
              refine SL.v (.int .i64 ((k + 1 : Nat) : Int)) ?_
              refine SL.nil ?_
              exact ⟨_, ⟨k + 1, X ++ [(l.getD k mac0)], Y, a_80, c_81, ay, cy, rfl, (hs_83.pick [0, 2, 0] rfl), (by omega), (bef_step (by omega) hX hqhb_76), (beh_stay (by omega) hY hqhb_85), (by simp only [List.length_append, List.length_cons, List.length_nil]; omega), (by omega), (by intro h_; first | cases h_ | (rw [hb_22] at h_; cases h_)), (by kernel_rfl), (by kernel_rfl), (by kernel_rfl), (by kernel_rfl), (by kernel_rfl), (by kernel_rfl), (by kernel_rfl), (by kernel_rfl), (by kernel_rfl), (by kernel_rfl)⟩, by omega⟩
          · try rw [hb_76]
            have hqhb_76 := of_decide_eq_false hb_76
            refine CW.cond_false (by kernel_rfl) ?_
            refine CW.skip ?_
            refine CW.seq ?_
            refine CW.region ?_
            refine SL.v (.slice a ((l).length) ca) ?_
            refine SL.v (.int .i64 ((k : Nat) : Int)) ?_
            refine SL.val (v := .pointer (some ⟨g_74, k * 2, none⟩)) (w' := w_7) rfl rfl (run_ixR (len := (l).length) (cap := ca) (q := .i64) (I := ((k : Nat) : Int)) (i := k) (size := 2) ha_75 rfl (by kernel_rfl) (by kernel_rfl) rfl (by kernel_rfl) (by kernel_rfl) (by omega)) ?_
            refine SL.v (.pointer (some ⟨g_74, k * 2, none⟩)) ?_
            refine SL.load (g := g_74) (off := k * 2) (v := .int .i64 ((l.getD k mac0).1)) rfl rfl rfl (by kernel_rfl) (hs_8.row_blk (i := 0) ha_75 rfl) (ldV_one (by kernel_rfl) (by kernel_rfl) (hs_8.row_one (i := 0) ha_75 rfl (mcells_get (i := k) (j := 0) (by omega) rfl))) ?_
            refine SL.v (.int .i64 i) ?_
            refine SL.v (.bool (decide (i < ((l.getD k mac0).1)))) ?_
            refine SL.nil ?_
            rcases Bool.eq_false_or_eq_true (decide (i < ((l.getD k mac0).1))) with hb_94 | hb_94
            · try rw [hb_94]
              have hqhb_94 := of_decide_eq_true hb_94
              refine CW.cond_true (by kernel_rfl) ?_
              refine CW.region ?_
              refine SL.v (.slice ay ((Y).length) cy) ?_
              refine SL.v (.slice a ((l).length) ca) ?_
              refine SL.v (.int .i64 ((k : Nat) : Int)) ?_
              refine SL.val (v := .pointer (some ⟨g_74, k * 2, none⟩)) (w' := w_7) rfl rfl (run_ixR (len := (l).length) (cap := ca) (q := .i64) (I := ((k : Nat) : Int)) (i := k) (size := 2) ha_75 rfl (by kernel_rfl) (by kernel_rfl) rfl (by kernel_rfl) (by kernel_rfl) (by omega)) ?_
              refine SL.load (g := g_74) (off := k * 2) (v := .agg #[.int .i64 ((l.getD k mac0).1), .string (bsl ((l.getD k mac0).2))]) rfl rfl rfl (by kernel_rfl) (hs_8.row_blk (i := 0) ha_75 rfl) (ldV_row (k := 2) (by kernel_rfl) (by kernel_rfl) (hs_8.row_many (i := 0) ha_75 rfl (mcells_part (i := k) (j := 0) (by omega) rfl rfl) rfl) rfl rfl) ?_
              refine SL.newH (mk := fun g => .slice (some ⟨g, 0, none⟩) 1 1) (C := #[.int .i64 ((l.getD k mac0).1), .string (bsl ((l.getD k mac0).2))]) (T := 77) hs_8 rfl rfl (by kernel_rfl) (fun g_95 w_96 hs_97 => ?_)
              have hs_97 : SH U w w_96 [rowH 77 2 a (l).length ca (mcells l), rowH 77 2 ax (X).length cx (mcells X), rowH 77 2 ay (Y).length cy (mcells Y), pt g_95 #[.int .i64 ((l.getD k mac0).1), .string (bsl ((l.getD k mac0).2))] 77] := hs_97
              refine SL.appR (z := .agg #[.int .i64 0, .string ⟨#[]⟩]) (size := 2) (bytes := 24) (el := 77) (m := 1) (news := [.int .i64 ((l.getD k mac0).1), .string (bsl ((l.getD k mac0).2))]) (i := 2) (xs' := mcells (Y ++ [(l.getD k mac0)])) (k' := (Y ++ [(l.getD k mac0)]).length) (L' := [rowH 77 2 a (l).length ca (mcells l), rowH 77 2 ax (X).length cx (mcells X), pt g_95 #[.int .i64 ((l.getD k mac0).1), .string (bsl ((l.getD k mac0).2))] 77]) hs_97 rfl rfl rfl (by kernel_rfl) (by kernel_rfl) (by kernel_rfl) (by kernel_rfl) (by kernel_rfl) (by kernel_rfl) rfl rfl (srcH (off := 0) (cs := [.int .i64 ((l.getD k mac0).1), .string (bsl ((l.getD k mac0).2))]) (el := 77) (by kernel_rfl) (hs_97.pt_at (i := 3) rfl) rfl rfl (List.all_eq_true.1 (by kernel_rfl))) (by (try simp only [List.length_append, List.length_cons, List.length_nil]); omega) (mcells_app Y ([(l.getD k mac0)])) (by first | (simp; done) | (simp only [List.length_append, List.length_cons, List.length_nil] <;> omega)) rfl (fun a_98 c_99 w_100 hs_101 => ?_)
              have hs_101 : SH U w w_100 [rowH 77 2 a (l).length ca (mcells l), rowH 77 2 ax (X).length cx (mcells X), pt g_95 #[.int .i64 ((l.getD k mac0).1), .string (bsl ((l.getD k mac0).2))] 77, rowH 77 2 a_98 (Y ++ [(l.getD k mac0)]).length c_99 (mcells (Y ++ [(l.getD k mac0)]))] := hs_101
              refine SL.v (.slice a_98 ((Y ++ [(l.getD k mac0)]).length) c_99) ?_
              refine SL.nil ?_
              refine CW.region ?_
              refine SL.v (.int .i64 ((k : Nat) : Int)) ?_
              refine SL.val (v := .int .i64 ((k + 1 : Nat) : Int)) (w' := w_100) rfl rfl (by have hw : IntKind.i64.wrap (((k : Nat) : Int) + 1) = ((k + 1 : Nat) : Int) := (IntWalk.i64_in _ (by omega)).trans (by omega); exact run_eqv (by kernel_rfl) (congrArg (fun z => Value.int .i64 z) hw)) ?_
              refine SL.v (.int .i64 ((k + 1 : Nat) : Int)) ?_
              refine SL.nil ?_
              exact ⟨_, ⟨k + 1, X, Y ++ [(l.getD k mac0)], ax, cx, a_98, c_99, rfl, (hs_101.pick [0, 0, 1] rfl), (by omega), (bef_stay (by omega) hX hqhb_76), (beh_step (by omega) hY hqhb_94), (by omega), (by simp only [List.length_append, List.length_cons, List.length_nil]; omega), (by intro h_; first | cases h_ | (rw [hb_22] at h_; cases h_)), (by kernel_rfl), (by kernel_rfl), (by kernel_rfl), (by kernel_rfl), (by kernel_rfl), (by kernel_rfl), (by kernel_rfl), (by kernel_rfl), (by kernel_rfl), (by kernel_rfl)⟩, by omega⟩
            · try rw [hb_94]
              have hqhb_94 := of_decide_eq_false hb_94
              refine CW.cond_false (by kernel_rfl) ?_
              refine CW.skip ?_
              refine CW.region ?_
              refine SL.v (.int .i64 ((k : Nat) : Int)) ?_
              refine SL.val (v := .int .i64 ((k + 1 : Nat) : Int)) (w' := w_7) rfl rfl (by have hw : IntKind.i64.wrap (((k : Nat) : Int) + 1) = ((k + 1 : Nat) : Int) := (IntWalk.i64_in _ (by omega)).trans (by omega); exact run_eqv (by kernel_rfl) (congrArg (fun z => Value.int .i64 z) hw)) ?_
              refine SL.v (.int .i64 ((k + 1 : Nat) : Int)) ?_
              refine SL.nil ?_
              exact ⟨_, ⟨k + 1, X, Y, ax, cx, ay, cy, rfl, (hs_8.pick [0, 0, 0] rfl), (by omega), (bef_stay (by omega) hX hqhb_76), (beh_stay (by omega) hY hqhb_94), (by omega), (by omega), (by intro h_; first | cases h_ | (rw [hb_22] at h_; cases h_)), (by kernel_rfl), (by kernel_rfl), (by kernel_rfl), (by kernel_rfl), (by kernel_rfl), (by kernel_rfl), (by kernel_rfl), (by kernel_rfl), (by kernel_rfl), (by kernel_rfl)⟩, by omega⟩
      · try rw [hb_21]
        have hqhb_21 := of_decide_eq_false hb_21
        refine SL.no false ?_
        refine SL.no false ?_
        refine SL.v (.bool false) ?_
        refine SL.nil ?_
        refine CW.cond_false (by kernel_rfl) ?_
        refine CW.exit ?_
        repeat with_reducible first | refine PThen.exit ?_ | refine PBlock.out rfl ?_
        with_reducible refine PBlock.here ?_
        repeat with_reducible refine PBlock.normal ?_
        refine CW.seq ?_
        refine CW.region ?_
        refine SL.v (.slice ax ((X).length) cx) ?_
        have hbe_ : l.take k = (bif cl then [] else l) := by
          cases cl with
          | true => have := hcl rfl; subst this; rfl
          | false => exact take_all (by omega)
        have hX9 : X = befL (bif cl then [] else l) i := by rw [← hbe_]; exact hX
        have hY9 : Y = behL (bif cl then [] else l) i := by rw [← hbe_]; exact hY
        obtain ⟨hleft, hl6, hx6, hy6⟩ := left_eq hk9 hX9 hY9
        refine SL.callH (f := 37) (args := #[.slice ax ((X).length) cx]) (Pre := [rowH 77 2 ax (X).length cx (mcells X)]) (Rest := [rowH 77 2 a (l).length ca (mcells l), rowH 77 2 ay (Y).length cy (mcells Y)]) [1] hs_8 rfl rfl (by kernel_rfl) rfl (rused_tr ax cx X w_7 (by omega) (by omega)) ?_
        rintro v_ Q_ w_103 ⟨rfl, rfl⟩ hs_105
        have hs_105 : SH U w w_103 [rowH 77 2 ax (X).length cx (mcells X), rowH 77 2 a (l).length ca (mcells l), rowH 77 2 ay (Y).length cy (mcells Y)] := hs_105
        refine SL.val (v := .int .i64 (6144 - ((usedL X : Nat) : Int))) (w' := w_103) rfl rfl (by have hw : IntKind.i64.wrap (6144 - ((usedL X : Nat) : Int)) = 6144 - ((usedL X : Nat) : Int) := IntWalk.i64_in _ (by omega); exact run_eqv (by kernel_rfl) (congrArg (fun z => Value.int .i64 z) hw)) ?_
        refine SL.v (.slice ay ((Y).length) cy) ?_
        refine SL.callH (f := 37) (args := #[.slice ay ((Y).length) cy]) (Pre := [rowH 77 2 ay (Y).length cy (mcells Y)]) (Rest := [rowH 77 2 ax (X).length cx (mcells X), rowH 77 2 a (l).length ca (mcells l)]) [2] hs_105 rfl rfl (by kernel_rfl) rfl (rused_tr ay cy Y w_103 (by omega) (by omega)) ?_
        rintro v_ Q_ w_106 ⟨rfl, rfl⟩ hs_108
        have hs_108 : SH U w w_106 [rowH 77 2 ay (Y).length cy (mcells Y), rowH 77 2 ax (X).length cx (mcells X), rowH 77 2 a (l).length ca (mcells l)] := hs_108
        refine SL.val (v := .int .i64 ((leftL l i cl : Nat) : Int)) (w' := w_106) rfl rfl (by have hw : IntKind.i64.wrap ((6144 - ((usedL X : Nat) : Int)) - ((usedL Y : Nat) : Int)) = ((leftL l i cl : Nat) : Int) := (IntWalk.i64_in _ (by omega)).trans hleft; exact run_eqv (by kernel_rfl) (congrArg (fun z => Value.int .i64 z) hw)) ?_
        refine SL.v (.int .i64 ((leftL l i cl : Nat) : Int)) ?_
        refine SL.nil ?_
        refine CW.seq ?_
        refine CW.seq ?_
        refine CW.region ?_
        refine SL.v (.bool hx) ?_
        refine SL.nil ?_
        rcases Bool.eq_false_or_eq_true (hx) with hb_109 | hb_109
        · try rw [hb_109]
          refine CW.cond_true (by kernel_rfl) ?_
          refine CW.seq ?_
          refine CW.region ?_
          refine SL.v (.string (bsl d)) ?_
          refine SL.v (.int .i64 ((leftL l i cl : Nat) : Int)) ?_
          refine SL.call (f := 10) (args := #[.string (bsl d), .int .i64 ((leftL l i cl : Nat) : Int)]) (w1 := w_106) rfl rfl (by kernel_rfl) (rdecode_n d (leftL l i cl) w_106 (by omega) (by omega)) ?_
          rintro x w_110 ⟨rfl, hc_111⟩
          refine ⟨.tuple #[.string (bsl ((decR d (leftL l i cl) []).1)), .int .i64 ((decR d (leftL l i cl) []).2)], rfl, ?_⟩
          have hs_112 := hs_108.grow hc_111
          refine SL.v (.tuple #[.string (bsl ((decR d (leftL l i cl) []).1)), .int .i64 ((decR d (leftL l i cl) []).2)]) ?_
          refine SL.v (.string (bsl ((decR d (leftL l i cl) []).1))) ?_
          refine SL.v (.int .i64 ((decR d (leftL l i cl) []).2)) ?_
          refine SL.v (.string (bsl ((decR d (leftL l i cl) []).1))) ?_
          refine SL.v (.int .i64 ((decR d (leftL l i cl) []).2)) ?_
          refine SL.nil ?_
          refine CW.seq ?_
          refine CW.seq ?_
          refine CW.region ?_
          refine SL.v (.int .i64 ((decR d (leftL l i cl) []).2)) ?_
          refine SL.v (.bool (!(((decR d (leftL l i cl) []).2) == 0))) ?_
          refine SL.nil ?_
          rcases Bool.eq_false_or_eq_true (((decR d (leftL l i cl) []).2) == 0) with hb_113 | hb_113
          · try rw [hb_113]
            refine CW.cond_false (by kernel_rfl) ?_
            refine CW.skip ?_
            refine CW.region ?_
            refine SL.v (.string (bsl ((decR d (leftL l i cl) []).1))) ?_
            refine SL.v (.string (bsl ((decR d (leftL l i cl) []).1))) ?_
            refine SL.nil ?_
            refine CW.seq ?_
            refine CW.seq ?_
            refine CW.region ?_
            refine SL.v (.string (bsl ((decR d (leftL l i cl) []).1))) ?_
            refine SL.val (v := .int .i64 ((((decR d (leftL l i cl) []).1).length : Nat) : Int)) (w' := w_110) rfl rfl (run_slen rfl (by kernel_rfl) (by kernel_rfl) (bsl_size _)) ?_
            refine SL.v (.int .i64 ((leftL l i cl : Nat) : Int)) ?_
            refine SL.v (.bool (decide (((leftL l i cl : Nat) : Int) < ((((decR d (leftL l i cl) []).1).length : Nat) : Int)))) ?_
            refine SL.nil ?_
            rcases Bool.eq_false_or_eq_true (decide (((leftL l i cl : Nat) : Int) < ((((decR d (leftL l i cl) []).1).length : Nat) : Int))) with hb_114 | hb_114
            · try rw [hb_114]
              have hqhb_114 := of_decide_eq_true hb_114
              refine CW.cond_true (by kernel_rfl) ?_
              refine CW.seq ?_
              refine CW.region ?_
              refine SL.v (.slice a ((l).length) ca) ?_
              refine SL.v (.slice a ((l).length) ca) ?_
              refine SL.v (.int .i64 5) ?_
              refine SL.nil ?_
              refine CW.ret ?_
              repeat with_reducible first | refine PThen.ret ?_ | refine PBlock.ret ?_
              refine PRet.tmp2 (t := 10) (u := 11) (v := .slice a ((l).length) ca) (v' := .int .i64 5) rfl rfl rfl (by kernel_rfl) (by kernel_rfl) ?_
              have hz9 : (decR d (leftL l i cl) []).2 = 0 := by simpa using hb_113
              have hd_ : D9 = (l, 5) := hD9.trans (defR_full (t := (decR d (leftL l i cl) []).1) (by omega) (by rw [hb_109]; show decR d (leftL l i cl) [] = _; exact Prod.ext rfl hz9) (by omega))
              rw [hd_]
              exact ⟨_, _, rfl, .inl ⟨(by simp), rfl, rfl⟩, hs_112.pick [2] rfl⟩
            · try rw [hb_114]
              have hqhb_114 := of_decide_eq_false hb_114
              refine CW.cond_false (by kernel_rfl) ?_
              refine CW.skip ?_
              refine CW.seq ?_
              refine CW.seq ?_
              refine CW.region ?_
              refine SL.v (.string (bsl ((decR d (leftL l i cl) []).1))) ?_
              refine SL.val (v := .bool (!(seqB (bsl ((decR d (leftL l i cl) []).1)) ⟨#[]⟩))) (w' := w_110) rfl rfl (run_strneB (a := bsl ((decR d (leftL l i cl) []).1)) (b := ⟨#[]⟩) (c := seqB (bsl ((decR d (leftL l i cl) []).1)) ⟨#[]⟩) rfl (by kernel_rfl) (by kernel_rfl) rfl) ?_
              refine SL.nil ?_
              rcases Bool.eq_false_or_eq_true (seqB (bsl ((decR d (leftL l i cl) []).1)) ⟨#[]⟩) with hb_115 | hb_115
              · try rw [hb_115]
                refine CW.cond_false (by kernel_rfl) ?_
                refine CW.skip ?_
                refine CW.seq ?_
                refine CW.region ?_
                refine SL.v (.slice ax ((X).length) cx) ?_
                refine SL.v (.slice ay ((Y).length) cy) ?_
                refine SL.appR (z := .agg #[.int .i64 0, .string ⟨#[]⟩]) (size := 2) (bytes := 24) (el := 77) (m := (Y).length) (news := mcells Y) (i := 1) (xs' := mcells (X ++ Y)) (k' := (X ++ Y).length) (L' := [rowH 77 2 ay (Y).length cy (mcells Y), rowH 77 2 a (l).length ca (mcells l)]) hs_112 rfl rfl rfl (by kernel_rfl) (by kernel_rfl) (by kernel_rfl) (by kernel_rfl) (by kernel_rfl) (by kernel_rfl) rfl rfl (srcRow (hs_112.row_at (i := 0) rfl) (by kernel_rfl) (mcells_one _)) (by (try simp only [List.length_append, List.length_cons, List.length_nil]); omega) (mcells_app X Y) (by first | (simp; done) | (simp only [List.length_append, List.length_cons, List.length_nil] <;> omega)) rfl (fun a_116 c_117 w_118 hs_119 => ?_)
                have hs_119 : SH U w w_118 [rowH 77 2 ay (Y).length cy (mcells Y), rowH 77 2 a (l).length ca (mcells l), rowH 77 2 a_116 (X ++ Y).length c_117 (mcells (X ++ Y))] := hs_119
                refine SL.v (.slice a_116 ((X ++ Y).length) c_117) ?_
                refine SL.v (.int .i64 0) ?_
                refine SL.nil ?_
                refine CW.ret ?_
                repeat with_reducible first | refine PThen.ret ?_ | refine PBlock.ret ?_
                refine PRet.tmp2 (t := 10) (u := 11) (v := .slice a_116 ((X ++ Y).length) c_117) (v' := .int .i64 0) rfl rfl rfl (by kernel_rfl) (by kernel_rfl) ?_
                have hz9 : (decR d (leftL l i cl) []).2 = 0 := by simpa using hb_113
                have hd_ : D9 = (putL l i cl ((decR d (leftL l i cl) []).1), 0) := hD9.trans (defR_put (t := (decR d (leftL l i cl) []).1) (by omega) (by rw [hb_109]; show decR d (leftL l i cl) [] = _; exact Prod.ext rfl hz9) (by omega))
                rw [seqB_nil] at hb_115
                have hp_ := put_eq0 hX9 hY9 (of_decide_eq_true hb_115)
                rw [hd_]
                exact ⟨_, _, rfl, .inr ⟨rfl, _, _, _, hp_, rfl, rfl⟩, hs_119.pick [2, 1] rfl⟩
              · try rw [hb_115]
                refine CW.cond_true (by kernel_rfl) ?_
                refine CW.region ?_
                refine SL.v (.slice ax ((X).length) cx) ?_
                refine SL.v (.int .i64 i) ?_
                refine SL.v (.string (bsl ((decR d (leftL l i cl) []).1))) ?_
                refine SL.v (.agg #[.int .i64 i, .string (bsl ((decR d (leftL l i cl) []).1))]) ?_
                refine SL.newH (mk := fun g => .slice (some ⟨g, 0, none⟩) 1 1) (C := #[.int .i64 i, .string (bsl ((decR d (leftL l i cl) []).1))]) (T := 77) hs_112 rfl rfl (by kernel_rfl) (fun g_121 w_122 hs_123 => ?_)
                have hs_123 : SH U w w_122 [rowH 77 2 ay (Y).length cy (mcells Y), rowH 77 2 ax (X).length cx (mcells X), rowH 77 2 a (l).length ca (mcells l), pt g_121 #[.int .i64 i, .string (bsl ((decR d (leftL l i cl) []).1))] 77] := hs_123
                refine SL.appR (z := .agg #[.int .i64 0, .string ⟨#[]⟩]) (size := 2) (bytes := 24) (el := 77) (m := 1) (news := [.int .i64 i, .string (bsl ((decR d (leftL l i cl) []).1))]) (i := 1) (xs' := mcells (X ++ [(i, (decR d (leftL l i cl) []).1)])) (k' := (X ++ [(i, (decR d (leftL l i cl) []).1)]).length) (L' := [rowH 77 2 ay (Y).length cy (mcells Y), rowH 77 2 a (l).length ca (mcells l), pt g_121 #[.int .i64 i, .string (bsl ((decR d (leftL l i cl) []).1))] 77]) hs_123 rfl rfl rfl (by kernel_rfl) (by kernel_rfl) (by kernel_rfl) (by kernel_rfl) (by kernel_rfl) (by kernel_rfl) rfl rfl (srcH (off := 0) (cs := [.int .i64 i, .string (bsl ((decR d (leftL l i cl) []).1))]) (el := 77) (by kernel_rfl) (hs_123.pt_at (i := 3) rfl) rfl rfl (List.all_eq_true.1 (by kernel_rfl))) (by (try simp only [List.length_append, List.length_cons, List.length_nil]); omega) (mcells_app X ([(i, (decR d (leftL l i cl) []).1)])) (by first | (simp; done) | (simp only [List.length_append, List.length_cons, List.length_nil] <;> omega)) rfl (fun a_124 c_125 w_126 hs_127 => ?_)
                have hs_127 : SH U w w_126 [rowH 77 2 ay (Y).length cy (mcells Y), rowH 77 2 a (l).length ca (mcells l), pt g_121 #[.int .i64 i, .string (bsl ((decR d (leftL l i cl) []).1))] 77, rowH 77 2 a_124 (X ++ [(i, (decR d (leftL l i cl) []).1)]).length c_125 (mcells (X ++ [(i, (decR d (leftL l i cl) []).1)]))] := hs_127
                refine SL.v (.slice a_124 ((X ++ [(i, (decR d (leftL l i cl) []).1)]).length) c_125) ?_
                refine SL.nil ?_
                refine CW.seq ?_
                refine CW.region ?_
                refine SL.v (.slice a_124 ((X ++ [(i, (decR d (leftL l i cl) []).1)]).length) c_125) ?_
                refine SL.v (.slice ay ((Y).length) cy) ?_
                refine SL.appR (z := .agg #[.int .i64 0, .string ⟨#[]⟩]) (size := 2) (bytes := 24) (el := 77) (m := (Y).length) (news := mcells Y) (i := 3) (xs' := mcells ((X ++ [(i, (decR d (leftL l i cl) []).1)]) ++ Y)) (k' := ((X ++ [(i, (decR d (leftL l i cl) []).1)]) ++ Y).length) (L' := [rowH 77 2 ay (Y).length cy (mcells Y), rowH 77 2 a (l).length ca (mcells l), pt g_121 #[.int .i64 i, .string (bsl ((decR d (leftL l i cl) []).1))] 77]) hs_127 rfl rfl rfl (by kernel_rfl) (by kernel_rfl) (by kernel_rfl) (by kernel_rfl) (by kernel_rfl) (by kernel_rfl) rfl rfl (srcRow (hs_127.row_at (i := 0) rfl) (by kernel_rfl) (mcells_one _)) (by (try simp only [List.length_append, List.length_cons, List.length_nil]); omega) (mcells_app (X ++ [(i, (decR d (leftL l i cl) []).1)]) Y) (by first | (simp; done) | (simp only [List.length_append, List.length_cons, List.length_nil] <;> omega)) rfl (fun a_129 c_130 w_131 hs_132 => ?_)
                have hs_132 : SH U w w_131 [rowH 77 2 ay (Y).length cy (mcells Y), rowH 77 2 a (l).length ca (mcells l), pt g_121 #[.int .i64 i, .string (bsl ((decR d (leftL l i cl) []).1))] 77, rowH 77 2 a_129 ((X ++ [(i, (decR d (leftL l i cl) []).1)]) ++ Y).length c_130 (mcells ((X ++ [(i, (decR d (leftL l i cl) []).1)]) ++ Y))] := hs_132
                refine SL.v (.slice a_129 (((X ++ [(i, (decR d (leftL l i cl) []).1)]) ++ Y).length) c_130) ?_
                refine SL.v (.int .i64 0) ?_
                refine SL.nil ?_
                refine CW.ret ?_
                repeat with_reducible first | refine PThen.ret ?_ | refine PBlock.ret ?_
                refine PRet.tmp2 (t := 10) (u := 11) (v := .slice a_129 (((X ++ [(i, (decR d (leftL l i cl) []).1)]) ++ Y).length) c_130) (v' := .int .i64 0) rfl rfl rfl (by kernel_rfl) (by kernel_rfl) ?_
                have hz9 : (decR d (leftL l i cl) []).2 = 0 := by simpa using hb_113
                have hd_ : D9 = (putL l i cl ((decR d (leftL l i cl) []).1), 0) := hD9.trans (defR_put (t := (decR d (leftL l i cl) []).1) (by omega) (by rw [hb_109]; show decR d (leftL l i cl) [] = _; exact Prod.ext rfl hz9) (by omega))
                rw [seqB_nil] at hb_115
                have hp_ := put_eq1 hX9 hY9 (of_decide_eq_false hb_115)
                rw [hd_]
                exact ⟨_, _, rfl, .inr ⟨rfl, _, _, _, hp_, rfl, rfl⟩, hs_132.pick [3, 1] rfl⟩
          · try rw [hb_113]
            refine CW.cond_true (by kernel_rfl) ?_
            refine CW.seq ?_
            refine CW.region ?_
            refine SL.v (.slice a ((l).length) ca) ?_
            refine SL.v (.int .i64 ((decR d (leftL l i cl) []).2)) ?_
            refine SL.v (.slice a ((l).length) ca) ?_
            refine SL.v (.int .i64 ((decR d (leftL l i cl) []).2)) ?_
            refine SL.nil ?_
            refine CW.ret ?_
            repeat with_reducible first | refine PThen.ret ?_ | refine PBlock.ret ?_
            refine PRet.tmp2 (t := 10) (u := 11) (v := .slice a ((l).length) ca) (v' := .int .i64 ((decR d (leftL l i cl) []).2)) rfl rfl rfl (by kernel_rfl) (by kernel_rfl) ?_
            have hz9 : (decR d (leftL l i cl) []).2 ≠ 0 := by simpa using hb_113
            have hd_ : D9 = (l, (decR d (leftL l i cl) []).2) := hD9.trans (defR_err (t := (decR d (leftL l i cl) []).1) (by omega) (by rw [hb_109]; rfl) hz9)
            rw [hd_]
            exact ⟨_, _, rfl, .inl ⟨hz9, rfl, rfl⟩, hs_112.pick [2] rfl⟩
        · try rw [hb_109]
          refine CW.cond_false (by kernel_rfl) ?_
          refine CW.skip ?_
          refine CW.seq ?_
          refine CW.seq ?_
          refine CW.region ?_
          refine SL.v (.string (bsl d)) ?_
          refine SL.val (v := .int .i64 ((d.length : Nat) : Int)) (w' := w_106) rfl rfl (run_slen rfl (by kernel_rfl) (by kernel_rfl) (bsl_size _)) ?_
          refine SL.v (.int .i64 ((leftL l i cl : Nat) : Int)) ?_
          refine SL.v (.bool (decide (((leftL l i cl : Nat) : Int) < ((d.length : Nat) : Int)))) ?_
          refine SL.nil ?_
          rcases Bool.eq_false_or_eq_true (decide (((leftL l i cl : Nat) : Int) < ((d.length : Nat) : Int))) with hb_134 | hb_134
          · try rw [hb_134]
            have hqhb_134 := of_decide_eq_true hb_134
            refine CW.cond_true (by kernel_rfl) ?_
            refine CW.seq ?_
            refine CW.region ?_
            refine SL.v (.slice a ((l).length) ca) ?_
            refine SL.v (.slice a ((l).length) ca) ?_
            refine SL.v (.int .i64 5) ?_
            refine SL.nil ?_
            refine CW.ret ?_
            repeat with_reducible first | refine PThen.ret ?_ | refine PBlock.ret ?_
            refine PRet.tmp2 (t := 10) (u := 11) (v := .slice a ((l).length) ca) (v' := .int .i64 5) rfl rfl rfl (by kernel_rfl) (by kernel_rfl) ?_
            have hd_ : D9 = (l, 5) := hD9.trans (defR_full (t := d) (by omega) (by rw [hb_109]; rfl) (by omega))
            rw [hd_]
            exact ⟨_, _, rfl, .inl ⟨(by simp), rfl, rfl⟩, hs_108.pick [2] rfl⟩
          · try rw [hb_134]
            have hqhb_134 := of_decide_eq_false hb_134
            refine CW.cond_false (by kernel_rfl) ?_
            refine CW.skip ?_
            refine CW.seq ?_
            refine CW.seq ?_
            refine CW.region ?_
            refine SL.v (.string (bsl d)) ?_
            refine SL.val (v := .bool (!(seqB (bsl d) ⟨#[]⟩))) (w' := w_106) rfl rfl (run_strneB (a := bsl d) (b := ⟨#[]⟩) (c := seqB (bsl d) ⟨#[]⟩) rfl (by kernel_rfl) (by kernel_rfl) rfl) ?_
            refine SL.nil ?_
            rcases Bool.eq_false_or_eq_true (seqB (bsl d) ⟨#[]⟩) with hb_135 | hb_135
            · try rw [hb_135]
              refine CW.cond_false (by kernel_rfl) ?_
              refine CW.skip ?_
              refine CW.seq ?_
              refine CW.region ?_
              refine SL.v (.slice ax ((X).length) cx) ?_
              refine SL.v (.slice ay ((Y).length) cy) ?_
              refine SL.appR (z := .agg #[.int .i64 0, .string ⟨#[]⟩]) (size := 2) (bytes := 24) (el := 77) (m := (Y).length) (news := mcells Y) (i := 1) (xs' := mcells (X ++ Y)) (k' := (X ++ Y).length) (L' := [rowH 77 2 ay (Y).length cy (mcells Y), rowH 77 2 a (l).length ca (mcells l)]) hs_108 rfl rfl rfl (by kernel_rfl) (by kernel_rfl) (by kernel_rfl) (by kernel_rfl) (by kernel_rfl) (by kernel_rfl) rfl rfl (srcRow (hs_108.row_at (i := 0) rfl) (by kernel_rfl) (mcells_one _)) (by (try simp only [List.length_append, List.length_cons, List.length_nil]); omega) (mcells_app X Y) (by first | (simp; done) | (simp only [List.length_append, List.length_cons, List.length_nil] <;> omega)) rfl (fun a_136 c_137 w_138 hs_139 => ?_)
              have hs_139 : SH U w w_138 [rowH 77 2 ay (Y).length cy (mcells Y), rowH 77 2 a (l).length ca (mcells l), rowH 77 2 a_136 (X ++ Y).length c_137 (mcells (X ++ Y))] := hs_139
              refine SL.v (.slice a_136 ((X ++ Y).length) c_137) ?_
              refine SL.v (.int .i64 0) ?_
              refine SL.nil ?_
              refine CW.ret ?_
              repeat with_reducible first | refine PThen.ret ?_ | refine PBlock.ret ?_
              refine PRet.tmp2 (t := 10) (u := 11) (v := .slice a_136 ((X ++ Y).length) c_137) (v' := .int .i64 0) rfl rfl rfl (by kernel_rfl) (by kernel_rfl) ?_
              have hd_ : D9 = (putL l i cl (d), 0) := hD9.trans (defR_put (t := d) (by omega) (by rw [hb_109]; rfl) (by omega))
              rw [seqB_nil] at hb_135
              have hp_ := put_eq0 hX9 hY9 (of_decide_eq_true hb_135)
              rw [hd_]
              exact ⟨_, _, rfl, .inr ⟨rfl, _, _, _, hp_, rfl, rfl⟩, hs_139.pick [2, 1] rfl⟩
            · try rw [hb_135]
              refine CW.cond_true (by kernel_rfl) ?_
              refine CW.region ?_
              refine SL.v (.slice ax ((X).length) cx) ?_
              refine SL.v (.int .i64 i) ?_
              refine SL.v (.string (bsl d)) ?_
              refine SL.v (.agg #[.int .i64 i, .string (bsl d)]) ?_
              refine SL.newH (mk := fun g => .slice (some ⟨g, 0, none⟩) 1 1) (C := #[.int .i64 i, .string (bsl d)]) (T := 77) hs_108 rfl rfl (by kernel_rfl) (fun g_141 w_142 hs_143 => ?_)
              have hs_143 : SH U w w_142 [rowH 77 2 ay (Y).length cy (mcells Y), rowH 77 2 ax (X).length cx (mcells X), rowH 77 2 a (l).length ca (mcells l), pt g_141 #[.int .i64 i, .string (bsl d)] 77] := hs_143
              refine SL.appR (z := .agg #[.int .i64 0, .string ⟨#[]⟩]) (size := 2) (bytes := 24) (el := 77) (m := 1) (news := [.int .i64 i, .string (bsl d)]) (i := 1) (xs' := mcells (X ++ [(i, d)])) (k' := (X ++ [(i, d)]).length) (L' := [rowH 77 2 ay (Y).length cy (mcells Y), rowH 77 2 a (l).length ca (mcells l), pt g_141 #[.int .i64 i, .string (bsl d)] 77]) hs_143 rfl rfl rfl (by kernel_rfl) (by kernel_rfl) (by kernel_rfl) (by kernel_rfl) (by kernel_rfl) (by kernel_rfl) rfl rfl (srcH (off := 0) (cs := [.int .i64 i, .string (bsl d)]) (el := 77) (by kernel_rfl) (hs_143.pt_at (i := 3) rfl) rfl rfl (List.all_eq_true.1 (by kernel_rfl))) (by (try simp only [List.length_append, List.length_cons, List.length_nil]); omega) (mcells_app X ([(i, d)])) (by first | (simp; done) | (simp only [List.length_append, List.length_cons, List.length_nil] <;> omega)) rfl (fun a_144 c_145 w_146 hs_147 => ?_)
              have hs_147 : SH U w w_146 [rowH 77 2 ay (Y).length cy (mcells Y), rowH 77 2 a (l).length ca (mcells l), pt g_141 #[.int .i64 i, .string (bsl d)] 77, rowH 77 2 a_144 (X ++ [(i, d)]).length c_145 (mcells (X ++ [(i, d)]))] := hs_147
              refine SL.v (.slice a_144 ((X ++ [(i, d)]).length) c_145) ?_
              refine SL.nil ?_
              refine CW.seq ?_
              refine CW.region ?_
              refine SL.v (.slice a_144 ((X ++ [(i, d)]).length) c_145) ?_
              refine SL.v (.slice ay ((Y).length) cy) ?_
              refine SL.appR (z := .agg #[.int .i64 0, .string ⟨#[]⟩]) (size := 2) (bytes := 24) (el := 77) (m := (Y).length) (news := mcells Y) (i := 3) (xs' := mcells ((X ++ [(i, d)]) ++ Y)) (k' := ((X ++ [(i, d)]) ++ Y).length) (L' := [rowH 77 2 ay (Y).length cy (mcells Y), rowH 77 2 a (l).length ca (mcells l), pt g_141 #[.int .i64 i, .string (bsl d)] 77]) hs_147 rfl rfl rfl (by kernel_rfl) (by kernel_rfl) (by kernel_rfl) (by kernel_rfl) (by kernel_rfl) (by kernel_rfl) rfl rfl (srcRow (hs_147.row_at (i := 0) rfl) (by kernel_rfl) (mcells_one _)) (by (try simp only [List.length_append, List.length_cons, List.length_nil]); omega) (mcells_app (X ++ [(i, d)]) Y) (by first | (simp; done) | (simp only [List.length_append, List.length_cons, List.length_nil] <;> omega)) rfl (fun a_149 c_150 w_151 hs_152 => ?_)
              have hs_152 : SH U w w_151 [rowH 77 2 ay (Y).length cy (mcells Y), rowH 77 2 a (l).length ca (mcells l), pt g_141 #[.int .i64 i, .string (bsl d)] 77, rowH 77 2 a_149 ((X ++ [(i, d)]) ++ Y).length c_150 (mcells ((X ++ [(i, d)]) ++ Y))] := hs_152
              refine SL.v (.slice a_149 (((X ++ [(i, d)]) ++ Y).length) c_150) ?_
              refine SL.v (.int .i64 0) ?_
              refine SL.nil ?_
              refine CW.ret ?_
              repeat with_reducible first | refine PThen.ret ?_ | refine PBlock.ret ?_
              refine PRet.tmp2 (t := 10) (u := 11) (v := .slice a_149 (((X ++ [(i, d)]) ++ Y).length) c_150) (v' := .int .i64 0) rfl rfl rfl (by kernel_rfl) (by kernel_rfl) ?_
              have hd_ : D9 = (putL l i cl (d), 0) := hD9.trans (defR_put (t := d) (by omega) (by rw [hb_109]; rfl) (by omega))
              rw [seqB_nil] at hb_135
              have hp_ := put_eq1 hX9 hY9 (of_decide_eq_false hb_135)
              rw [hd_]
              exact ⟨_, _, rfl, .inr ⟨rfl, _, _, _, hp_, rfl, rfl⟩, hs_152.pick [3, 1] rfl⟩
end Go.Proofs.Ytaeppimldbknhaa
