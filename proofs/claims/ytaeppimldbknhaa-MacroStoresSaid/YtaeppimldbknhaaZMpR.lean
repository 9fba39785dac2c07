/-
  Define of the macros' store (gen_mpr.py).
-/
import Derived.Test.YtaeppimldbknhaaZMpQ
namespace Go.Proofs.Ytaeppimldbknhaa
set_option linter.unusedSimpArgs false
set_option linter.unusedVariables false
open Go.RowKit Go.Maps
set_option linter.unusedVariables false

theorem SH.canon {U : List Nat} {w0 w : World} {As : List HA} (h : SH U w0 w As) {i b m : Nat} {el : TypeId} {D : DataW Unit} (hi : As[i]? = some (mpH Try.prog 3 el b m D)) : Canon D := (h.map_at hi).canon keyI
theorem SH.canonR {U : List Nat} {w0 w : World} {As : List HA} (h : SH U w0 w As) {i b r m cnt : Nat} {el : TypeId} {D : DataW Unit} {left : Lit → Bool} (hi : As[i]? = some (rgH Try.prog 3 el b r m D left cnt)) : Canon D := (h.range_at hi).owns.canon keyI
theorem canon_isMap {D : DataW Unit} (h : Canon D) : IsMap D := by obtain ⟨es, rfl, _⟩ := h; exact ⟨es, rfl⟩
theorem decode_n (d : List UInt8) (n : Nat) (w : World) (hl : d.length ≤ 1000000) (hn : n ≤ 1000000) (hm : MaxOk w) :
    Calls Try.prog 9 #[.string (bsl d), .int .i64 ((n : Nat) : Int)] w fun e w' => e = .returned (.tuple #[.string (bsl (decR d n []).1), .int .i64 (decR d n []).2]) ∧ Gr w w' := by
  have := decode_any d ((n : Nat) : Int) w hl (by omega) hm
  rw [Int.toNat_natCast] at this
  exact this
theorem macD_rest {l : List Mac} {i : Int} {cl : Bool} (h : cl = false) : (macD l).del (.int .i64 i) = macD (restL l i cl) := by subst h; exact macD_del l i
theorem macD_rest1 {l : List Mac} {i : Int} {cl : Bool} (h : cl = true) : (macD []).del (.int .i64 i) = macD (restL l i cl) := by subst h; exact macD_del [] i
theorem macD_putL {l : List Mac} {i : Int} {cl : Bool} {t : List UInt8} (hl : riseL l) (ht : t ≠ []) : (macD (restL l i cl)).put (.int .i64 i) (.lit (.string (bsl t).data.toList)) = macD (putL l i cl t) := by
  unfold putL restL
  rw [if_neg ht, bsl_list]
  exact macD_put (rise_bif hl cl) i t
theorem put0 {l : List Mac} {i : Int} {cl : Bool} {t : List UInt8} (hl : riseL l) (ht : t = []) : restL l i cl = putL l i cl t := by
  unfold putL restL
  rw [if_pos ht, List.nil_append, delL_split (rise_bif hl cl)]
theorem rest_left {l : List Mac} {i : Int} {cl : Bool} (h : MacOk l) : 6144 - ((totD (macD (restL l i cl)) : Nat) : Int) = ((leftL l i cl : Nat) : Int) ∧ totD (macD (restL l i cl)) ≤ 6144 ∧ leftL l i cl ≤ 6144 := by
  have hu : usedL (bif cl then [] else l) ≤ 6144 := by
    cases cl
    · exact h.used
    · simp [usedL]
  have h4 := Nat.le_trans (usedL_filter (fun p => !(p.1 == i)) (bif cl then [] else l)) hu
  have h5 : usedL (restL l i cl) ≤ 6144 := h4
  rw [macD_tot]
  unfold leftL
  omega
set_option maxRecDepth 100000 in
set_option maxHeartbeats 4000000 in
theorem copy_full (d b n : Nat) (D : DataW Unit) (w : World) (hn : Maps.size D ≤ 1000000) : Tr Try.prog 29 #[.map (some d), .map (some b)] w [mpH Try.prog 3 9 d 0 (.map []), mpH Try.prog 3 9 b n D] (fun v Q => v = .tuple #[] ∧ ∃ c, c ≤ Maps.size D ∧ Q = [mpH Try.prog 3 9 d c D, mpH Try.prog 3 9 b n D]) := by
  refine Tr.of fun U hs0 => ?_
  refine calls_sx (n := 16) (args := [.map (some d), .map (some b)]) Try.func29 rfl rfl rfl ?_
  refine CW.seq ?_
  refine CW.region ?_
  refine SL.v (.map (some b)) ?_
  refine SL.mpRange (L' := []) (i := 1) (b := b) (c := n) (D := D) keyI hs0 rfl rfl rfl rfl (by kernel_rfl) rfl (fun r_1 w_2 hs_3 => ?_)
  have hs_3 : SH U w w_2 [mpH Try.prog 3 9 d 0 (.map []), rgH Try.prog 3 9 b r_1 n D (Maps.has D) (Maps.size D)] := hs_3
  refine SL.nil ?_
  refine CW.block ?_
  refine CW.loopI (fun m_ e9 w9 => ∃ (cnt : Nat), ∃ (left : Lit → Bool), ∃ (c : Nat), ∃ (E : DataW Unit), m_ = cnt ∧ SH U w w9 [mpH Try.prog 3 9 d c E, rgH Try.prog 3 9 b r_1 n D left cnt] ∧ (Agree E D left) ∧ (c + cnt ≤ Maps.size D) ∧ e9 0 = .map (some d) ∧ e9 1 = .map (some b) ∧ e9 7 = .pointer (some ⟨r_1, 0, none⟩)) ⟨_, _, _, 0, .map [], rfl, hs_3, (agree_start D), (by omega), (by kernel_rfl), (by kernel_rfl), (by kernel_rfl)⟩ ?_
  rintro m_4 e_5 w_6 ⟨cnt, left, c, E, hm_8, hs_7, hA, hc, hv_9, hv_10, hv_11⟩
  obtain ⟨e_12, rfl⟩ : ∃ e_12, e_5 = put1 (put1 (put1 e_12 0 (.map (some d))) 1 (.map (some b))) 7 (.pointer (some ⟨r_1, 0, none⟩)) := ⟨e_5, (put_self hv_11).trans (congrArg (fun z => put1 z 7 (.pointer (some ⟨r_1, 0, none⟩))) ((put_self hv_10).trans (congrArg (fun z => put1 z 1 (.map (some b))) (put_self hv_9))))⟩
  clear hv_9 hv_10 hv_11
  refine CW.seq ?_
  refine CW.region ?_
  refine SL.mpNextS (i := 1) (b := b) (r := r_1) (c := n) (cnt := cnt) (D := D) (left := left) keyI (Try.underlying3) (Try.underlying9) hs_7 rfl rfl rfl (by kernel_rfl) rfl ?_ ?_
  · intro hc_13 hl_14
    refine SL.v (.bool false) ?_
    refine SL.nil ?_
    refine CW.seq ?_
    refine CW.cond_false (by kernel_rfl) ?_
    refine CW.exit ?_
    repeat with_reducible first | refine PThen.exit ?_ | refine PBlock.out rfl ?_
    with_reducible refine PBlock.here ?_
    repeat with_reducible refine PBlock.normal ?_
    refine PRet.none rfl ?_
    have hED_ := agree_end hA hl_14 (hs_7.canon (i := 0) rfl) (hs_7.canonR (i := 1) rfl)
    subst hED_
    exact ⟨_, _, rfl, ⟨rfl, c, by omega, rfl⟩, hs_7.mpDone (i := 1) rfl⟩
  · intro x_15 s_16 kl_17 w_18 cnt_19 hkey_20 hlk_21 hat_22 hsz_23 hlt_24 hs_25 hen_26
    have hs_25 : SH U w w_18 [mpH Try.prog 3 9 d c E, rgH Try.prog 3 9 b r_1 n D (fun z => left z && !z.sameKey kl_17) cnt_19] := hs_25
    have hE_ := canon_isMap (hs_25.canon (i := 0) rfl)
    refine SL.v (.bool true) ?_
    refine SL.nil ?_
    refine CW.seq ?_
    refine CW.cond_true (by kernel_rfl) ?_
    refine CW.skip ?_
    refine CW.block ?_
    refine CW.seq ?_
    refine CW.region ?_
    refine SL.val (v := .tuple #[.int .i64 x_15, .string s_16]) (w' := w_18) rfl rfl (run_entry rfl (by kernel_rfl) hen_26) ?_
    refine SL.v (.int .i64 x_15) ?_
    refine SL.v (.string s_16) ?_
    refine SL.v (.int .i64 x_15) ?_
    refine SL.v (.string s_16) ?_
    refine SL.nil ?_
    refine CW.region ?_
    refine SL.v (.map (some d)) ?_
    refine SL.v (.int .i64 x_15) ?_
    refine SL.v (.string s_16) ?_
    refine SL.mpPut (i := 0) (b := d) (c := c) (D := E) (kl := kl_17) (d := (.lit (.string s_16.data.toList))) (ps := []) (L' := [mpH Try.prog 3 9 d (c + 1) (E.put kl_17 (.lit (.string s_16.data.toList))), rgH Try.prog 3 9 b r_1 n D (fun z => left z && !z.sameKey kl_17) cnt_19]) keyI hs_25 rfl rfl rfl rfl (by kernel_rfl) (by kernel_rfl) (by kernel_rfl) rfl (by unfold maxLen; omega) hkey_20 (str_elem hsz_23) rfl (fun w_27 hs_28 => ?_)
    refine SL.nil ?_
    exact ⟨_, ⟨cnt_19, _, _, _, rfl, hs_28, (agree_step hA hE_ (keyI.key hkey_20) hat_22), (by omega), (by kernel_rfl), (by kernel_rfl), (by kernel_rfl)⟩, by omega⟩
theorem copy_o (d : Nat) (ob : Option Nat) (n : Nat) (D : DataW Unit) (w : World) (hn : Maps.size D ≤ 1000000) : Tr Try.prog 29 #[.map (some d), .map ob] w [mpH Try.prog 3 9 d 0 (.map []), oH ob n D] (fun v Q => v = .tuple #[] ∧ ∃ c, c ≤ Maps.size D ∧ Q = [mpH Try.prog 3 9 d c D, oH ob n D]) := by
  cases ob with
  | some b => exact copy_full d b n D w hn
  | none =>
    refine Tr.pureEnd (R := fun v Q => v = .tuple #[] ∧ Q = [mpH Try.prog 3 9 d 0 (.map [])]) (fun hp fp hfp => ?_) fun hp v Q h => ?_
    · refine (copy_nil d w).mono fun e w' h => ?_
      obtain ⟨rfl, hg⟩ := h
      exact ⟨_, _, fp, rfl, ⟨rfl, rfl⟩, hfp.keep _ _ _ _ fun g hm => hg.block g (hfp.live _ _ _ g hm), hg.updU, fun g hg => .inl hg⟩
    · obtain ⟨rfl, rfl⟩ := hp
      exact .inr ⟨h.1, 0, Nat.zero_le _, by rw [h.2]; rfl⟩
set_option maxRecDepth 100000 in
set_option maxHeartbeats 4000000 in
theorem pdef_tr (g : Nat) (ob : Option Nat) (n : Nat) (l : List Mac) (i : Int) (cl hx : Bool) (d : List UInt8) (w : World) (hi : (Lit.int .i64 i).wf = true) (hk9 : MacOk l) (hd9 : d.length ≤ 10000) : TrM MaxOk Try.prog 12 #[.pointer (some ⟨g, 0, none⟩), .int .i64 i, .bool cl, .bool hx, .string (bsl d)] w [pt g #[.map ob] 35, oH ob n (macD l)] (fun v Q => ((defR l i cl hx d).2 ≠ 0 ∧ v = .int .i64 (defR l i cl hx d).2 ∧ Q = [pt g #[.map ob] 35, oH ob n (macD l)]) ∨ ((defR l i cl hx d).2 = 0 ∧ v = .int .i64 0 ∧ ∃ m b2 c2, m = (defR l i cl hx d).1 ∧ Q = [pt g #[.map (some b2)] 35, oH (some b2) c2 (macD m)])) := by
  have hn9 := rise_len hk9
  obtain ⟨D9, hD9⟩ : ∃ D9, D9 = defR l i cl hx d := ⟨_, rfl⟩
  rw [← hD9]
  refine TrM.of fun U hs0 hMU => ?_
  refine calls_sx (n := 60) (args := [.pointer (some ⟨g, 0, none⟩), .int .i64 i, .bool cl, .bool hx, .string (bsl d)]) Try.func12 rfl rfl rfl ?_
  refine CW.seq ?_
  refine CW.region ?_
  refine SL.v (.int .i64 0) ?_
  refine SL.nil ?_
  refine CW.seq ?_
  refine CW.seq ?_
  refine CW.region ?_
  refine SL.v (.int .i64 i) ?_
  refine SL.v (.bool (decide (i < 0))) ?_
  refine SL.v (.bool (decide (i < 0))) ?_
  rcases Bool.eq_false_or_eq_true (decide (i < 0)) with hb_1 | hb_1
  · try rw [hb_1]
    have hqhb_1 := of_decide_eq_true hb_1
    refine SL.no true ?_
    refine SL.no true ?_
    refine SL.v (.bool true) ?_
    refine SL.nil ?_
    refine CW.cond_true (by kernel_rfl) ?_
    refine CW.seq ?_
    refine CW.region ?_
    refine SL.v (.int .i64 1) ?_
    refine SL.nil ?_
    refine CW.ret ?_
    repeat with_reducible first | refine PThen.ret ?_ | refine PBlock.ret ?_
    refine PRet.tmp (t := 10) (v := .int .i64 1) rfl rfl (by kernel_rfl) ?_
    have hd_ : D9 = (l, 1) := hD9.trans (defR_arg (by omega))
    rw [hd_]
    exact ⟨_, _, rfl, .inl ⟨(by simp), rfl, rfl⟩, hs0.pick [0, 0] rfl⟩
  · try rw [hb_1]
    have hqhb_1 := of_decide_eq_false hb_1
    refine SL.go ?_
    refine SL.v (.int .i64 i) ?_
    refine SL.go ?_
    refine SL.v (.bool (decide (64 ≤ i))) ?_
    refine SL.v (.bool (decide (64 ≤ i))) ?_
    refine SL.nil ?_
    rcases Bool.eq_false_or_eq_true (decide (64 ≤ i)) with hb_2 | hb_2
    · try rw [hb_2]
      have hqhb_2 := of_decide_eq_true hb_2
      refine CW.cond_true (by kernel_rfl) ?_
      refine CW.seq ?_
      refine CW.region ?_
      refine SL.v (.int .i64 1) ?_
      refine SL.nil ?_
      refine CW.ret ?_
      repeat with_reducible first | refine PThen.ret ?_ | refine PBlock.ret ?_
      refine PRet.tmp (t := 10) (v := .int .i64 1) rfl rfl (by kernel_rfl) ?_
      have hd_ : D9 = (l, 1) := hD9.trans (defR_arg (by omega))
      rw [hd_]
      exact ⟨_, _, rfl, .inl ⟨(by simp), rfl, rfl⟩, hs0.pick [0, 0] rfl⟩
    · try rw [hb_2]
      have hqhb_2 := of_decide_eq_false hb_2
      refine CW.cond_false (by kernel_rfl) ?_
      refine CW.skip ?_
      refine CW.seq ?_
      refine CW.region ?_
      refine SL.mpNew 3 9 hs0 rfl rfl (by kernel_rfl) (fun b_3 w_4 hs_5 => ?_)
      have hs_5 : SH U w w_4 [pt g #[.map ob] 35, oH ob n (macD l), mpH Try.prog 3 9 b_3 0 (DataW.map [])] := hs_5
      refine SL.v (.map (some b_3)) ?_
      refine SL.nil ?_
      refine CW.seq ?_
      refine CW.seq ?_
      refine CW.region ?_
      refine SL.v (.bool cl) ?_
      refine SL.v (.bool (!cl)) ?_
      refine SL.nil ?_
      rcases Bool.eq_false_or_eq_true (cl) with hb_6 | hb_6
      · try rw [hb_6]
        refine CW.cond_false (by kernel_rfl) ?_
        refine CW.skip ?_
        refine CW.seq ?_
        refine CW.region ?_
        refine SL.v (.map (some b_3)) ?_
        refine SL.v (.int .i64 i) ?_
        refine SL.mpDel (i := 2) (b := b_3) (c := 0) (D := DataW.map []) (kl := (.int .i64 i)) (L' := [pt g #[.map ob] 35, oH ob n (macD l), mpH Try.prog 3 9 b_3 0 ((DataW.map []).del (.int .i64 i))]) keyI hs_5 rfl rfl rfl rfl (by kernel_rfl) (by kernel_rfl) rfl (keyOf_int i hi) rfl (fun w_7 hs_8 => ?_)
        rw [show (DataW.map [] : DataW Unit).del (.int .i64 i) = macD (restL l i cl) from macD_rest1 hb_6] at hs_8
        refine SL.nil ?_
        refine CW.seq ?_
        refine CW.region ?_
        refine SL.v (.map (some b_3)) ?_
        have hOkE := hs_8.mapOk (i := 2) rfl
        obtain ⟨hleft, htot, hl6⟩ := rest_left (i := i) (cl := cl) hk9
        refine SL.callH (f := 30) (args := #[.map (some b_3)]) (Pre := [mpH Try.prog 3 9 b_3 0 (macD (restL l i cl))]) (Rest := [pt g #[.map ob] 35, oH ob n (macD l)]) [2] hs_8 rfl rfl (by kernel_rfl) rfl (used_tr b_3 0 (macD (restL l i cl)) w_7 hOkE (by omega)) ?_
        rintro v_ Q_ w_9 ⟨rfl, rfl⟩ hs_11
        have hs_11 : SH U w w_9 [mpH Try.prog 3 9 b_3 0 (macD (restL l i cl)), pt g #[.map ob] 35, oH ob n (macD l)] := hs_11
        refine SL.val (v := .int .i64 ((leftL l i cl : Nat) : Int)) (w' := w_9) rfl rfl (by have hw : IntKind.i64.wrap (6144 - ((totD (macD (restL l i cl)) : Nat) : Int)) = ((leftL l i cl : Nat) : Int) := (IntWalk.i64_in _ (by omega)).trans hleft; exact run_eqv (by kernel_rfl) (congrArg (fun z => Value.int .i64 z) hw)) ?_
        refine SL.v (.int .i64 ((leftL l i cl : Nat) : Int)) ?_
        refine SL.nil ?_
        refine CW.seq ?_
        refine CW.seq ?_
        refine CW.region ?_
        refine SL.v (.bool hx) ?_
        refine SL.nil ?_
        rcases Bool.eq_false_or_eq_true (hx) with hb_12 | hb_12
        · try rw [hb_12]
          refine CW.cond_true (by kernel_rfl) ?_
          refine CW.seq ?_
          refine CW.region ?_
          refine SL.v (.string (bsl d)) ?_
          refine SL.v (.int .i64 ((leftL l i cl : Nat) : Int)) ?_
          refine SL.call (f := 9) (args := #[.string (bsl d), .int .i64 ((leftL l i cl : Nat) : Int)]) (w1 := w_9) rfl rfl (by kernel_rfl) (decode_n d (leftL l i cl) w_9 (by omega) (by omega) (hMU _ hs_11.upd)) ?_
          rintro x w_13 ⟨rfl, hc_14⟩
          refine ⟨.tuple #[.string (bsl ((decR d (leftL l i cl) []).1)), .int .i64 ((decR d (leftL l i cl) []).2)], rfl, ?_⟩
          have hs_15 := hs_11.grow hc_14
          refine SL.v (.tuple #[.string (bsl ((decR d (leftL l i cl) []).1)), .int .i64 ((decR d (leftL l i cl) []).2)]) ?_
          refine SL.v (.string (bsl ((decR d (leftL l i cl) []).1))) ?_
          refine SL.v (.int .i64 ((decR d (leftL l i cl) []).2)) ?_
          refine SL.v (.string (bsl ((decR d (leftL l i cl) []).1))) ?_
          refine SL.v (.int .i64 ((decR d (leftL l i cl) []).2)) ?_
          refine SL.nil ?_
          refine CW.seq ?_
          refine CW.seq ?_
          refine CW.region ?_
          refine SL.v (.int .i64 ((decR d (leftL l i cl) []).2)) ?_
          refine SL.v (.bool (!(((decR d (leftL l i cl) []).2) == 0))) ?_
          refine SL.nil ?_
          rcases Bool.eq_false_or_eq_true (((decR d (leftL l i cl) []).2) == 0) with hb_16 | hb_16
          · try rw [hb_16]
            refine CW.cond_false (by kernel_rfl) ?_
            refine CW.skip ?_
            refine CW.region ?_
            refine SL.v (.string (bsl ((decR d (leftL l i cl) []).1))) ?_
            refine SL.v (.string (bsl ((decR d (leftL l i cl) []).1))) ?_
            refine SL.nil ?_
            refine CW.seq ?_
            refine CW.seq ?_
            refine CW.region ?_
            refine SL.v (.string (bsl ((decR d (leftL l i cl) []).1))) ?_
            refine SL.val (v := .int .i64 ((((decR d (leftL l i cl) []).1).length : Nat) : Int)) (w' := w_13) rfl rfl (run_slen rfl (by kernel_rfl) (by kernel_rfl) (bsl_size _)) ?_
            refine SL.v (.int .i64 ((leftL l i cl : Nat) : Int)) ?_
            refine SL.v (.bool (decide (((leftL l i cl : Nat) : Int) < ((((decR d (leftL l i cl) []).1).length : Nat) : Int)))) ?_
            refine SL.nil ?_
            rcases Bool.eq_false_or_eq_true (decide (((leftL l i cl : Nat) : Int) < ((((decR d (leftL l i cl) []).1).length : Nat) : Int))) with hb_17 | hb_17
            · try rw [hb_17]
              have hqhb_17 := of_decide_eq_true hb_17
              refine CW.cond_true (by kernel_rfl) ?_
              refine CW.seq ?_
              refine CW.region ?_
              refine SL.v (.int .i64 5) ?_
              refine SL.nil ?_
              refine CW.ret ?_
              repeat with_reducible first | refine PThen.ret ?_ | refine PBlock.ret ?_
              refine PRet.tmp (t := 10) (v := .int .i64 5) rfl rfl (by kernel_rfl) ?_
              have hz9 : (decR d (leftL l i cl) []).2 = 0 := by simpa using hb_16
              have hd_ : D9 = (l, 5) := hD9.trans (defR_full (t := (decR d (leftL l i cl) []).1) (by omega) (by rw [hb_12]; show decR d (leftL l i cl) [] = _; exact Prod.ext rfl hz9) (by omega))
              rw [hd_]
              exact ⟨_, _, rfl, .inl ⟨(by simp), rfl, rfl⟩, hs_15.pick [1, 1] rfl⟩
            · try rw [hb_17]
              have hqhb_17 := of_decide_eq_false hb_17
              refine CW.cond_false (by kernel_rfl) ?_
              refine CW.skip ?_
              refine CW.seq ?_
              refine CW.seq ?_
              refine CW.region ?_
              refine SL.v (.string (bsl ((decR d (leftL l i cl) []).1))) ?_
              refine SL.val (v := .bool (!(seqB (bsl ((decR d (leftL l i cl) []).1)) ⟨#[]⟩))) (w' := w_13) rfl rfl (run_strneB (a := bsl ((decR d (leftL l i cl) []).1)) (b := ⟨#[]⟩) (c := seqB (bsl ((decR d (leftL l i cl) []).1)) ⟨#[]⟩) rfl (by kernel_rfl) (by kernel_rfl) rfl) ?_
              refine SL.nil ?_
              rcases Bool.eq_false_or_eq_true (seqB (bsl ((decR d (leftL l i cl) []).1)) ⟨#[]⟩) with hb_18 | hb_18
              · try rw [hb_18]
                refine CW.cond_false (by kernel_rfl) ?_
                refine CW.skip ?_
                refine CW.seq ?_
                refine CW.region ?_
                refine SL.v (.pointer (some ⟨g, 0, none⟩)) ?_
                refine SL.v (.map (some b_3)) ?_
                refine SL.v (.pointer (some ⟨g, 0, none⟩)) ?_
                refine SL.v (.pointer (some ⟨g, 0, none⟩)) ?_
                refine SL.storeH (i := 1) (g := g) (off := 0) (v := .map (some b_3)) (L' := [mpH Try.prog 3 9 b_3 0 (macD (restL l i cl)), pt g #[.map (some b_3)] 35, oH ob n (macD l)]) hs_15 rfl rfl rfl (by kernel_rfl) (by kernel_rfl) rfl (by kernel_rfl) (by kernel_rfl) rfl (by kernel_rfl) rfl (fun w_19 hs_20 => ?_)
                refine SL.nil ?_
                refine CW.seq ?_
                refine CW.region ?_
                refine SL.v (.int .i64 0) ?_
                refine SL.nil ?_
                refine CW.ret ?_
                repeat with_reducible first | refine PThen.ret ?_ | refine PBlock.ret ?_
                refine PRet.tmp (t := 10) (v := .int .i64 0) rfl rfl (by kernel_rfl) ?_
                have hz9 : (decR d (leftL l i cl) []).2 = 0 := by simpa using hb_16
                have hd_ : D9 = (putL l i cl ((decR d (leftL l i cl) []).1), 0) := hD9.trans (defR_put (t := (decR d (leftL l i cl) []).1) (by omega) (by rw [hb_12]; show decR d (leftL l i cl) [] = _; exact Prod.ext rfl hz9) (by omega))
                have hr_ : restL l i cl = putL l i cl ((decR d (leftL l i cl) []).1) := put0 hk9.rise (of_decide_eq_true ((seqB_nil _).symm.trans hb_18))
                rw [hd_]
                exact ⟨_, _, rfl, .inr ⟨rfl, rfl, _, _, _, hr_, rfl⟩, hs_20.pick [1, 0] rfl⟩
              · try rw [hb_18]
                refine CW.cond_true (by kernel_rfl) ?_
                refine CW.region ?_
                refine SL.v (.map (some b_3)) ?_
                refine SL.v (.int .i64 i) ?_
                refine SL.v (.string (bsl ((decR d (leftL l i cl) []).1))) ?_
                refine SL.call (f := 31) (args := #[.string (bsl ((decR d (leftL l i cl) []).1))]) (w1 := w_13) rfl rfl (by kernel_rfl) (clone_s (bsl ((decR d (leftL l i cl) []).1)) w_13 (by rw [bsl_size]; omega)) ?_
                rintro x w_21 ⟨rfl, hc_22⟩
                refine ⟨.string (bsl ((decR d (leftL l i cl) []).1)), rfl, ?_⟩
                have hs_23 := hs_15.grow hc_22
                refine SL.mpPut (i := 0) (b := b_3) (c := 0) (D := macD (restL l i cl)) (kl := (.int .i64 i)) (d := (.lit (.string (bsl ((decR d (leftL l i cl) []).1)).data.toList))) (ps := []) (L' := [mpH Try.prog 3 9 b_3 (0 + 1) ((macD (restL l i cl)).put (.int .i64 i) (.lit (.string (bsl ((decR d (leftL l i cl) []).1)).data.toList))), pt g #[.map ob] 35, oH ob n (macD l)]) keyI hs_23 rfl rfl rfl rfl (by kernel_rfl) (by kernel_rfl) (by kernel_rfl) rfl (by unfold maxLen; omega) (keyOf_int i hi) (str_elem (by rw [bsl_size]; unfold maxLen; omega)) rfl (fun w_24 hs_25 => ?_)
                rw [macD_putL (t := (decR d (leftL l i cl) []).1) hk9.rise (of_decide_eq_false ((seqB_nil _).symm.trans hb_18))] at hs_25
                refine SL.nil ?_
                refine CW.seq ?_
                refine CW.region ?_
                refine SL.v (.pointer (some ⟨g, 0, none⟩)) ?_
                refine SL.v (.map (some b_3)) ?_
                refine SL.v (.pointer (some ⟨g, 0, none⟩)) ?_
                refine SL.v (.pointer (some ⟨g, 0, none⟩)) ?_
                refine SL.storeH (i := 1) (g := g) (off := 0) (v := .map (some b_3)) (L' := [mpH Try.prog 3 9 b_3 (0 + 1) (macD (putL l i cl ((decR d (leftL l i cl) []).1))), pt g #[.map (some b_3)] 35, oH ob n (macD l)]) hs_25 rfl rfl rfl (by kernel_rfl) (by kernel_rfl) rfl (by kernel_rfl) (by kernel_rfl) rfl (by kernel_rfl) rfl (fun w_26 hs_27 => ?_)
                refine SL.nil ?_
                refine CW.seq ?_
                refine CW.region ?_
                refine SL.v (.int .i64 0) ?_
                refine SL.nil ?_
                refine CW.ret ?_
                repeat with_reducible first | refine PThen.ret ?_ | refine PBlock.ret ?_
                refine PRet.tmp (t := 10) (v := .int .i64 0) rfl rfl (by kernel_rfl) ?_
                have hz9 : (decR d (leftL l i cl) []).2 = 0 := by simpa using hb_16
                have hd_ : D9 = (putL l i cl ((decR d (leftL l i cl) []).1), 0) := hD9.trans (defR_put (t := (decR d (leftL l i cl) []).1) (by omega) (by rw [hb_12]; show decR d (leftL l i cl) [] = _; exact Prod.ext rfl hz9) (by omega))
                rw [hd_]
                exact ⟨_, _, rfl, .inr ⟨rfl, rfl, _, _, _, rfl, rfl⟩, hs_27.pick [1, 0] rfl⟩
          · try rw [hb_16]
            refine CW.cond_true (by kernel_rfl) ?_
            refine CW.seq ?_
            refine CW.region ?_
            refine SL.v (.int .i64 ((decR d (leftL l i cl) []).2)) ?_
            refine SL.v (.int .i64 ((decR d (leftL l i cl) []).2)) ?_
            refine SL.nil ?_
            refine CW.ret ?_
            repeat with_reducible first | refine PThen.ret ?_ | refine PBlock.ret ?_
            refine PRet.tmp (t := 10) (v := .int .i64 ((decR d (leftL l i cl) []).2)) rfl rfl (by kernel_rfl) ?_
            have hz9 : (decR d (leftL l i cl) []).2 ≠ 0 := by simpa using hb_16
            have hd_ : D9 = (l, (decR d (leftL l i cl) []).2) := hD9.trans (defR_err (t := (decR d (leftL l i cl) []).1) (by omega) (by rw [hb_12]; rfl) hz9)
            rw [hd_]
            exact ⟨_, _, rfl, .inl ⟨hz9, rfl, rfl⟩, hs_15.pick [1, 1] rfl⟩
        · try rw [hb_12]
          refine CW.cond_false (by kernel_rfl) ?_
          refine CW.skip ?_
          refine CW.seq ?_
          refine CW.seq ?_
          refine CW.region ?_
          refine SL.v (.string (bsl d)) ?_
          refine SL.val (v := .int .i64 ((d.length : Nat) : Int)) (w' := w_9) rfl rfl (run_slen rfl (by kernel_rfl) (by kernel_rfl) (bsl_size _)) ?_
          refine SL.v (.int .i64 ((leftL l i cl : Nat) : Int)) ?_
          refine SL.v (.bool (decide (((leftL l i cl : Nat) : Int) < ((d.length : Nat) : Int)))) ?_
          refine SL.nil ?_
          rcases Bool.eq_false_or_eq_true (decide (((leftL l i cl : Nat) : Int) < ((d.length : Nat) : Int))) with hb_28 | hb_28
          · try rw [hb_28]
            have hqhb_28 := of_decide_eq_true hb_28
            refine CW.cond_true (by kernel_rfl) ?_
            refine CW.seq ?_
            refine CW.region ?_
            refine SL.v (.int .i64 5) ?_
            refine SL.nil ?_
            refine CW.ret ?_
            repeat with_reducible first | refine PThen.ret ?_ | refine PBlock.ret ?_
            refine PRet.tmp (t := 10) (v := .int .i64 5) rfl rfl (by kernel_rfl) ?_
            have hd_ : D9 = (l, 5) := hD9.trans (defR_full (t := d) (by omega) (by rw [hb_12]; rfl) (by omega))
            rw [hd_]
            exact ⟨_, _, rfl, .inl ⟨(by simp), rfl, rfl⟩, hs_11.pick [1, 1] rfl⟩
          · try rw [hb_28]
            have hqhb_28 := of_decide_eq_false hb_28
            refine CW.cond_false (by kernel_rfl) ?_
            refine CW.skip ?_
            refine CW.seq ?_
            refine CW.seq ?_
            refine CW.region ?_
            refine SL.v (.string (bsl d)) ?_
            refine SL.val (v := .bool (!(seqB (bsl d) ⟨#[]⟩))) (w' := w_9) rfl rfl (run_strneB (a := bsl d) (b := ⟨#[]⟩) (c := seqB (bsl d) ⟨#[]⟩) rfl (by kernel_rfl) (by kernel_rfl) rfl) ?_
            refine SL.nil ?_
            rcases Bool.eq_false_or_eq_true (seqB (bsl d) ⟨#[]⟩) with hb_29 | hb_29
            · try rw [hb_29]
              refine CW.cond_false (by kernel_rfl) ?_
              refine CW.skip ?_
              refine CW.seq ?_
              refine CW.region ?_
              refine SL.v (.pointer (some ⟨g, 0, none⟩)) ?_
              refine SL.v (.map (some b_3)) ?_
              refine SL.v (.pointer (some ⟨g, 0, none⟩)) ?_
              refine SL.v (.pointer (some ⟨g, 0, none⟩)) ?_
              refine SL.storeH (i := 1) (g := g) (off := 0) (v := .map (some b_3)) (L' := [mpH Try.prog 3 9 b_3 0 (macD (restL l i cl)), pt g #[.map (some b_3)] 35, oH ob n (macD l)]) hs_11 rfl rfl rfl (by kernel_rfl) (by kernel_rfl) rfl (by kernel_rfl) (by kernel_rfl) rfl (by kernel_rfl) rfl (fun w_30 hs_31 => ?_)
              refine SL.nil ?_
              refine CW.seq ?_
              refine CW.region ?_
              refine SL.v (.int .i64 0) ?_
              refine SL.nil ?_
              refine CW.ret ?_
              repeat with_reducible first | refine PThen.ret ?_ | refine PBlock.ret ?_
              refine PRet.tmp (t := 10) (v := .int .i64 0) rfl rfl (by kernel_rfl) ?_
              have hd_ : D9 = (putL l i cl (d), 0) := hD9.trans (defR_put (t := d) (by omega) (by rw [hb_12]; rfl) (by omega))
              have hr_ : restL l i cl = putL l i cl (d) := put0 hk9.rise (of_decide_eq_true ((seqB_nil _).symm.trans hb_29))
              rw [hd_]
              exact ⟨_, _, rfl, .inr ⟨rfl, rfl, _, _, _, hr_, rfl⟩, hs_31.pick [1, 0] rfl⟩
            · try rw [hb_29]
              refine CW.cond_true (by kernel_rfl) ?_
              refine CW.region ?_
              refine SL.v (.map (some b_3)) ?_
              refine SL.v (.int .i64 i) ?_
              refine SL.v (.string (bsl d)) ?_
              refine SL.call (f := 31) (args := #[.string (bsl d)]) (w1 := w_9) rfl rfl (by kernel_rfl) (clone_s (bsl d) w_9 (by rw [bsl_size]; omega)) ?_
              rintro x w_32 ⟨rfl, hc_33⟩
              refine ⟨.string (bsl d), rfl, ?_⟩
              have hs_34 := hs_11.grow hc_33
              refine SL.mpPut (i := 0) (b := b_3) (c := 0) (D := macD (restL l i cl)) (kl := (.int .i64 i)) (d := (.lit (.string (bsl d).data.toList))) (ps := []) (L' := [mpH Try.prog 3 9 b_3 (0 + 1) ((macD (restL l i cl)).put (.int .i64 i) (.lit (.string (bsl d).data.toList))), pt g #[.map ob] 35, oH ob n (macD l)]) keyI hs_34 rfl rfl rfl rfl (by kernel_rfl) (by kernel_rfl) (by kernel_rfl) rfl (by unfold maxLen; omega) (keyOf_int i hi) (str_elem (by rw [bsl_size]; unfold maxLen; omega)) rfl (fun w_35 hs_36 => ?_)
              rw [macD_putL (t := d) hk9.rise (of_decide_eq_false ((seqB_nil _).symm.trans hb_29))] at hs_36
              refine SL.nil ?_
              refine CW.seq ?_
              refine CW.region ?_
              refine SL.v (.pointer (some ⟨g, 0, none⟩)) ?_
              refine SL.v (.map (some b_3)) ?_
              refine SL.v (.pointer (some ⟨g, 0, none⟩)) ?_
              refine SL.v (.pointer (some ⟨g, 0, none⟩)) ?_
              refine SL.storeH (i := 1) (g := g) (off := 0) (v := .map (some b_3)) (L' := [mpH Try.prog 3 9 b_3 (0 + 1) (macD (putL l i cl d)), pt g #[.map (some b_3)] 35, oH ob n (macD l)]) hs_36 rfl rfl rfl (by kernel_rfl) (by kernel_rfl) rfl (by kernel_rfl) (by kernel_rfl) rfl (by kernel_rfl) rfl (fun w_37 hs_38 => ?_)
              refine SL.nil ?_
              refine CW.seq ?_
              refine CW.region ?_
              refine SL.v (.int .i64 0) ?_
              refine SL.nil ?_
              refine CW.ret ?_
              repeat with_reducible first | refine PThen.ret ?_ | refine PBlock.ret ?_
              refine PRet.tmp (t := 10) (v := .int .i64 0) rfl rfl (by kernel_rfl) ?_
              have hd_ : D9 = (putL l i cl (d), 0) := hD9.trans (defR_put (t := d) (by omega) (by rw [hb_12]; rfl) (by omega))
              rw [hd_]
              exact ⟨_, _, rfl, .inr ⟨rfl, rfl, _, _, _, rfl, rfl⟩, hs_38.pick [1, 0] rfl⟩
      · try rw [hb_6]
        refine CW.cond_true (by kernel_rfl) ?_
        refine CW.region ?_
        refine SL.v (.map (some b_3)) ?_
        refine SL.v (.pointer (some ⟨g, 0, none⟩)) ?_
        refine SL.v (.pointer (some ⟨g, 0, none⟩)) ?_
        refine SL.v (.pointer (some ⟨g, 0, none⟩)) ?_
        refine SL.load (g := g) (off := 0) (v := .map ob) rfl rfl rfl (by kernel_rfl) (hs_5.pt_at (i := 0) rfl) (by kernel_rfl) ?_
        refine SL.callH (f := 29) (args := #[.map (some b_3), .map ob]) (Pre := [mpH Try.prog 3 9 b_3 0 (DataW.map []), oH ob n (macD l)]) (Rest := [pt g #[.map ob] 35]) [2, 1] hs_5 rfl rfl (by kernel_rfl) rfl (copy_o b_3 ob n (macD l) w_4 (by rw [macD_size]; omega)) ?_
        rintro v_ Q_ w_39 ⟨rfl, cc, hcc, rfl⟩ hs_41
        have hs_41 : SH U w w_39 [mpH Try.prog 3 9 b_3 cc (macD l), oH ob n (macD l), pt g #[.map ob] 35] := hs_41
        rw [macD_size] at hcc
        refine SL.nil ?_
        refine CW.seq ?_
        refine CW.region ?_
        refine SL.v (.map (some b_3)) ?_
        refine SL.v (.int .i64 i) ?_
        refine SL.mpDel (i := 0) (b := b_3) (c := cc) (D := macD l) (kl := (.int .i64 i)) (L' := [mpH Try.prog 3 9 b_3 cc ((macD l).del (.int .i64 i)), oH ob n (macD l), pt g #[.map ob] 35]) keyI hs_41 rfl rfl rfl rfl (by kernel_rfl) (by kernel_rfl) rfl (keyOf_int i hi) rfl (fun w_42 hs_43 => ?_)
        rw [macD_rest hb_6] at hs_43
        refine SL.nil ?_
        refine CW.seq ?_
        refine CW.region ?_
        refine SL.v (.map (some b_3)) ?_
        have hOkE := hs_43.mapOk (i := 0) rfl
        obtain ⟨hleft, htot, hl6⟩ := rest_left (i := i) (cl := cl) hk9
        refine SL.callH (f := 30) (args := #[.map (some b_3)]) (Pre := [mpH Try.prog 3 9 b_3 cc (macD (restL l i cl))]) (Rest := [oH ob n (macD l), pt g #[.map ob] 35]) [0] hs_43 rfl rfl (by kernel_rfl) rfl (used_tr b_3 cc (macD (restL l i cl)) w_42 hOkE (by omega)) ?_
        rintro v_ Q_ w_44 ⟨rfl, rfl⟩ hs_46
        have hs_46 : SH U w w_44 [mpH Try.prog 3 9 b_3 cc (macD (restL l i cl)), oH ob n (macD l), pt g #[.map ob] 35] := hs_46
        refine SL.val (v := .int .i64 ((leftL l i cl : Nat) : Int)) (w' := w_44) rfl rfl (by have hw : IntKind.i64.wrap (6144 - ((totD (macD (restL l i cl)) : Nat) : Int)) = ((leftL l i cl : Nat) : Int) := (IntWalk.i64_in _ (by omega)).trans hleft; exact run_eqv (by kernel_rfl) (congrArg (fun z => Value.int .i64 z) hw)) ?_
        refine SL.v (.int .i64 ((leftL l i cl : Nat) : Int)) ?_
        refine SL.nil ?_
        refine CW.seq ?_
        refine CW.seq ?_
        refine CW.region ?_
        refine SL.v (.bool hx) ?_
        refine SL.nil ?_
        rcases Bool.eq_false_or_eq_true (hx) with hb_47 | hb_47
        · try rw [hb_47]
          refine CW.cond_true (by kernel_rfl) ?_
          refine CW.seq ?_
          refine CW.region ?_
          refine SL.v (.string (bsl d)) ?_
          refine SL.v (.int .i64 ((leftL l i cl : Nat) : Int)) ?_
          refine SL.call (f := 9) (args := #[.string (bsl d), .int .i64 ((leftL l i cl : Nat) : Int)]) (w1 := w_44) rfl rfl (by kernel_rfl) (decode_n d (leftL l i cl) w_44 (by omega) (by omega) (hMU _ hs_46.upd)) ?_
          rintro x w_48 ⟨rfl, hc_49⟩
          refine ⟨.tuple #[.string (bsl ((decR d (leftL l i cl) []).1)), .int .i64 ((decR d (leftL l i cl) []).2)], rfl, ?_⟩
          have hs_50 := hs_46.grow hc_49
          refine SL.v (.tuple #[.string (bsl ((decR d (leftL l i cl) []).1)), .int .i64 ((decR d (leftL l i cl) []).2)]) ?_
          refine SL.v (.string (bsl ((decR d (leftL l i cl) []).1))) ?_
          refine SL.v (.int .i64 ((decR d (leftL l i cl) []).2)) ?_
          refine SL.v (.string (bsl ((decR d (leftL l i cl) []).1))) ?_
          refine SL.v (.int .i64 ((decR d (leftL l i cl) []).2)) ?_
          refine SL.nil ?_
          refine CW.seq ?_
          refine CW.seq ?_
          refine CW.region ?_
          refine SL.v (.int .i64 ((decR d (leftL l i cl) []).2)) ?_
          refine SL.v (.bool (!(((decR d (leftL l i cl) []).2) == 0))) ?_
          refine SL.nil ?_
          rcases Bool.eq_false_or_eq_true (((decR d (leftL l i cl) []).2) == 0) with hb_51 | hb_51
          · try rw [hb_51]
            refine CW.cond_false (by kernel_rfl) ?_
            refine CW.skip ?_
            refine CW.region ?_
            refine SL.v (.string (bsl ((decR d (leftL l i cl) []).1))) ?_
            refine SL.v (.string (bsl ((decR d (leftL l i cl) []).1))) ?_
            refine SL.nil ?_
            refine CW.seq ?_
            refine CW.seq ?_
            refine CW.region ?_
            refine SL.v (.string (bsl ((decR d (leftL l i cl) []).1))) ?_
            refine SL.val (v := .int .i64 ((((decR d (leftL l i cl) []).1).length : Nat) : Int)) (w' := w_48) rfl rfl (run_slen rfl (by kernel_rfl) (by kernel_rfl) (bsl_size _)) ?_
            refine SL.v (.int .i64 ((leftL l i cl : Nat) : Int)) ?_
            refine SL.v (.bool (decide (((leftL l i cl : Nat) : Int) < ((((decR d (leftL l i cl) []).1).length : Nat) : Int)))) ?_
            refine SL.nil ?_
            rcases Bool.eq_false_or_eq_true (decide (((leftL l i cl : Nat) : Int) < ((((decR d (leftL l i cl) []).1).length : Nat) : Int))) with hb_52 | hb_52
            · try rw [hb_52]
              have hqhb_52 := of_decide_eq_true hb_52
              refine CW.cond_true (by kernel_rfl) ?_
              refine CW.seq ?_
              refine CW.region ?_
              refine SL.v (.int .i64 5) ?_
              refine SL.nil ?_
              refine CW.ret ?_
              repeat with_reducible first | refine PThen.ret ?_ | refine PBlock.ret ?_
              refine PRet.tmp (t := 10) (v := .int .i64 5) rfl rfl (by kernel_rfl) ?_
              have hz9 : (decR d (leftL l i cl) []).2 = 0 := by simpa using hb_51
              have hd_ : D9 = (l, 5) := hD9.trans (defR_full (t := (decR d (leftL l i cl) []).1) (by omega) (by rw [hb_47]; show decR d (leftL l i cl) [] = _; exact Prod.ext rfl hz9) (by omega))
              rw [hd_]
              exact ⟨_, _, rfl, .inl ⟨(by simp), rfl, rfl⟩, hs_50.pick [2, 1] rfl⟩
            · try rw [hb_52]
              have hqhb_52 := of_decide_eq_false hb_52
              refine CW.cond_false (by kernel_rfl) ?_
              refine CW.skip ?_
              refine CW.seq ?_
              refine CW.seq ?_
              refine CW.region ?_
              refine SL.v (.string (bsl ((decR d (leftL l i cl) []).1))) ?_
              refine SL.val (v := .bool (!(seqB (bsl ((decR d (leftL l i cl) []).1)) ⟨#[]⟩))) (w' := w_48) rfl rfl (run_strneB (a := bsl ((decR d (leftL l i cl) []).1)) (b := ⟨#[]⟩) (c := seqB (bsl ((decR d (leftL l i cl) []).1)) ⟨#[]⟩) rfl (by kernel_rfl) (by kernel_rfl) rfl) ?_
              refine SL.nil ?_
              rcases Bool.eq_false_or_eq_true (seqB (bsl ((decR d (leftL l i cl) []).1)) ⟨#[]⟩) with hb_53 | hb_53
              · try rw [hb_53]
                refine CW.cond_false (by kernel_rfl) ?_
                refine CW.skip ?_
                refine CW.seq ?_
                refine CW.region ?_
                refine SL.v (.pointer (some ⟨g, 0, none⟩)) ?_
                refine SL.v (.map (some b_3)) ?_
                refine SL.v (.pointer (some ⟨g, 0, none⟩)) ?_
                refine SL.v (.pointer (some ⟨g, 0, none⟩)) ?_
                refine SL.storeH (i := 2) (g := g) (off := 0) (v := .map (some b_3)) (L' := [mpH Try.prog 3 9 b_3 cc (macD (restL l i cl)), oH ob n (macD l), pt g #[.map (some b_3)] 35]) hs_50 rfl rfl rfl (by kernel_rfl) (by kernel_rfl) rfl (by kernel_rfl) (by kernel_rfl) rfl (by kernel_rfl) rfl (fun w_54 hs_55 => ?_)
                refine SL.nil ?_
                refine CW.seq ?_
                refine CW.region ?_
                refine SL.v (.int .i64 0) ?_
                refine SL.nil ?_
                refine CW.ret ?_
                repeat with_reducible first | refine PThen.ret ?_ | refine PBlock.ret ?_
                refine PRet.tmp (t := 10) (v := .int .i64 0) rfl rfl (by kernel_rfl) ?_
                have hz9 : (decR d (leftL l i cl) []).2 = 0 := by simpa using hb_51
                have hd_ : D9 = (putL l i cl ((decR d (leftL l i cl) []).1), 0) := hD9.trans (defR_put (t := (decR d (leftL l i cl) []).1) (by omega) (by rw [hb_47]; show decR d (leftL l i cl) [] = _; exact Prod.ext rfl hz9) (by omega))
                have hr_ : restL l i cl = putL l i cl ((decR d (leftL l i cl) []).1) := put0 hk9.rise (of_decide_eq_true ((seqB_nil _).symm.trans hb_53))
                rw [hd_]
                exact ⟨_, _, rfl, .inr ⟨rfl, rfl, _, _, _, hr_, rfl⟩, hs_55.pick [2, 0] rfl⟩
              · try rw [hb_53]
                refine CW.cond_true (by kernel_rfl) ?_
                refine CW.region ?_
                refine SL.v (.map (some b_3)) ?_
                refine SL.v (.int .i64 i) ?_
                refine SL.v (.string (bsl ((decR d (leftL l i cl) []).1))) ?_
                refine SL.call (f := 31) (args := #[.string (bsl ((decR d (leftL l i cl) []).1))]) (w1 := w_48) rfl rfl (by kernel_rfl) (clone_s (bsl ((decR d (leftL l i cl) []).1)) w_48 (by rw [bsl_size]; omega)) ?_
                rintro x w_56 ⟨rfl, hc_57⟩
                refine ⟨.string (bsl ((decR d (leftL l i cl) []).1)), rfl, ?_⟩
                have hs_58 := hs_50.grow hc_57
                refine SL.mpPut (i := 0) (b := b_3) (c := cc) (D := macD (restL l i cl)) (kl := (.int .i64 i)) (d := (.lit (.string (bsl ((decR d (leftL l i cl) []).1)).data.toList))) (ps := []) (L' := [mpH Try.prog 3 9 b_3 (cc + 1) ((macD (restL l i cl)).put (.int .i64 i) (.lit (.string (bsl ((decR d (leftL l i cl) []).1)).data.toList))), oH ob n (macD l), pt g #[.map ob] 35]) keyI hs_58 rfl rfl rfl rfl (by kernel_rfl) (by kernel_rfl) (by kernel_rfl) rfl (by unfold maxLen; omega) (keyOf_int i hi) (str_elem (by rw [bsl_size]; unfold maxLen; omega)) rfl (fun w_59 hs_60 => ?_)
                rw [macD_putL (t := (decR d (leftL l i cl) []).1) hk9.rise (of_decide_eq_false ((seqB_nil _).symm.trans hb_53))] at hs_60
                refine SL.nil ?_
                refine CW.seq ?_
                refine CW.region ?_
                refine SL.v (.pointer (some ⟨g, 0, none⟩)) ?_
                refine SL.v (.map (some b_3)) ?_
                refine SL.v (.pointer (some ⟨g, 0, none⟩)) ?_
                refine SL.v (.pointer (some ⟨g, 0, none⟩)) ?_
                refine SL.storeH (i := 2) (g := g) (off := 0) (v := .map (some b_3)) (L' := [mpH Try.prog 3 9 b_3 (cc + 1) (macD (putL l i cl ((decR d (leftL l i cl) []).1))), oH ob n (macD l), pt g #[.map (some b_3)] 35]) hs_60 rfl rfl rfl (by kernel_rfl) (by kernel_rfl) rfl (by kernel_rfl) (by kernel_rfl) rfl (by kernel_rfl) rfl (fun w_61 hs_62 => ?_)
                refine SL.nil ?_
                refine CW.seq ?_
                refine CW.region ?_
                refine SL.v (.int .i64 0) ?_
                refine SL.nil ?_
                refine CW.ret ?_
                repeat with_reducible first | refine PThen.ret ?_ | refine PBlock.ret ?_
                refine PRet.tmp (t := 10) (v := .int .i64 0) rfl rfl (by kernel_rfl) ?_
                have hz9 : (decR d (leftL l i cl) []).2 = 0 := by simpa using hb_51
                have hd_ : D9 = (putL l i cl ((decR d (leftL l i cl) []).1), 0) := hD9.trans (defR_put (t := (decR d (leftL l i cl) []).1) (by omega) (by rw [hb_47]; show decR d (leftL l i cl) [] = _; exact Prod.ext rfl hz9) (by omega))
                rw [hd_]
                exact ⟨_, _, rfl, .inr ⟨rfl, rfl, _, _, _, rfl, rfl⟩, hs_62.pick [2, 0] rfl⟩
          · try rw [hb_51]
            refine CW.cond_true (by kernel_rfl) ?_
            refine CW.seq ?_
            refine CW.region ?_
            refine SL.v (.int .i64 ((decR d (leftL l i cl) []).2)) ?_
            refine SL.v (.int .i64 ((decR d (leftL l i cl) []).2)) ?_
            refine SL.nil ?_
            refine CW.ret ?_
            repeat with_reducible first | refine PThen.ret ?_ | refine PBlock.ret ?_
            refine PRet.tmp (t := 10) (v := .int .i64 ((decR d (leftL l i cl) []).2)) rfl rfl (by kernel_rfl) ?_
            have hz9 : (decR d (leftL l i cl) []).2 ≠ 0 := by simpa using hb_51
            have hd_ : D9 = (l, (decR d (leftL l i cl) []).2) := hD9.trans (defR_err (t := (decR d (leftL l i cl) []).1) (by omega) (by rw [hb_47]; rfl) hz9)
            rw [hd_]
            exact ⟨_, _, rfl, .inl ⟨hz9, rfl, rfl⟩, hs_50.pick [2, 1] rfl⟩
        · try rw [hb_47]
          refine CW.cond_false (by kernel_rfl) ?_
          refine CW.skip ?_
          refine CW.seq ?_
          refine CW.seq ?_
          refine CW.region ?_
          refine SL.v (.string (bsl d)) ?_
          refine SL.val (v := .int .i64 ((d.length : Nat) : Int)) (w' := w_44) rfl rfl (run_slen rfl (by kernel_rfl) (by kernel_rfl) (bsl_size _)) ?_
          refine SL.v (.int .i64 ((leftL l i cl : Nat) : Int)) ?_
          refine SL.v (.bool (decide (((leftL l i cl : Nat) : Int) < ((d.length : Nat) : Int)))) ?_
          refine SL.nil ?_
          rcases Bool.eq_false_or_eq_true (decide (((leftL l i cl : Nat) : Int) < ((d.length : Nat) : Int))) with hb_63 | hb_63
          · try rw [hb_63]
            have hqhb_63 := of_decide_eq_true hb_63
            refine CW.cond_true (by kernel_rfl) ?_
            refine CW.seq ?_
            refine CW.region ?_
            refine SL.v (.int .i64 5) ?_
            refine SL.nil ?_
            refine CW.ret ?_
            repeat with_reducible first | refine PThen.ret ?_ | refine PBlock.ret ?_
            refine PRet.tmp (t := 10) (v := .int .i64 5) rfl rfl (by kernel_rfl) ?_
            have hd_ : D9 = (l, 5) := hD9.trans (defR_full (t := d) (by omega) (by rw [hb_47]; rfl) (by omega))
            rw [hd_]
            exact ⟨_, _, rfl, .inl ⟨(by simp), rfl, rfl⟩, hs_46.pick [2, 1] rfl⟩
          · try rw [hb_63]
            have hqhb_63 := of_decide_eq_false hb_63
            refine CW.cond_false (by kernel_rfl) ?_
            refine CW.skip ?_
            refine CW.seq ?_
            refine CW.seq ?_
            refine CW.region ?_
            refine SL.v (.string (bsl d)) ?_
            refine SL.val (v := .bool (!(seqB (bsl d) ⟨#[]⟩))) (w' := w_44) rfl rfl (run_strneB (a := bsl d) (b := ⟨#[]⟩) (c := seqB (bsl d) ⟨#[]⟩) rfl (by kernel_rfl) (by kernel_rfl) rfl) ?_
            refine SL.nil ?_
            rcases Bool.eq_false_or_eq_true (seqB (bsl d) ⟨#[]⟩) with hb_64 | hb_64
            · try rw [hb_64]
              refine CW.cond_false (by kernel_rfl) ?_
              refine CW.skip ?_
              refine CW.seq ?_
              refine CW.region ?_
              refine SL.v (.pointer (some ⟨g, 0, none⟩)) ?_
              refine SL.v (.map (some b_3)) ?_
              refine SL.v (.pointer (some ⟨g, 0, none⟩)) ?_
              refine SL.v (.pointer (some ⟨g, 0, none⟩)) ?_
              refine SL.storeH (i := 2) (g := g) (off := 0) (v := .map (some b_3)) (L' := [mpH Try.prog 3 9 b_3 cc (macD (restL l i cl)), oH ob n (macD l), pt g #[.map (some b_3)] 35]) hs_46 rfl rfl rfl (by kernel_rfl) (by kernel_rfl) rfl (by kernel_rfl) (by kernel_rfl) rfl (by kernel_rfl) rfl (fun w_65 hs_66 => ?_)
              refine SL.nil ?_
              refine CW.seq ?_
              refine CW.region ?_
              refine SL.v (.int .i64 0) ?_
              refine SL.nil ?_
              refine CW.ret ?_
              repeat with_reducible first | refine PThen.ret ?_ | refine PBlock.ret ?_
              refine PRet.tmp (t := 10) (v := .int .i64 0) rfl rfl (by kernel_rfl) ?_
              have hd_ : D9 = (putL l i cl (d), 0) := hD9.trans (defR_put (t := d) (by omega) (by rw [hb_47]; rfl) (by omega))
              have hr_ : restL l i cl = putL l i cl (d) := put0 hk9.rise (of_decide_eq_true ((seqB_nil _).symm.trans hb_64))
              rw [hd_]
              exact ⟨_, _, rfl, .inr ⟨rfl, rfl, _, _, _, hr_, rfl⟩, hs_66.pick [2, 0] rfl⟩
            · try rw [hb_64]
              refine CW.cond_true (by kernel_rfl) ?_
              refine CW.region ?_
              refine SL.v (.map (some b_3)) ?_
              refine SL.v (.int .i64 i) ?_
              refine SL.v (.string (bsl d)) ?_
              refine SL.call (f := 31) (args := #[.string (bsl d)]) (w1 := w_44) rfl rfl (by kernel_rfl) (clone_s (bsl d) w_44 (by rw [bsl_size]; omega)) ?_
              rintro x w_67 ⟨rfl, hc_68⟩
              refine ⟨.string (bsl d), rfl, ?_⟩
              have hs_69 := hs_46.grow hc_68
              refine SL.mpPut (i := 0) (b := b_3) (c := cc) (D := macD (restL l i cl)) (kl := (.int .i64 i)) (d := (.lit (.string (bsl d).data.toList))) (ps := []) (L' := [mpH Try.prog 3 9 b_3 (cc + 1) ((macD (restL l i cl)).put (.int .i64 i) (.lit (.string (bsl d).data.toList))), oH ob n (macD l), pt g #[.map ob] 35]) keyI hs_69 rfl rfl rfl rfl (by kernel_rfl) (by kernel_rfl) (by kernel_rfl) rfl (by unfold maxLen; omega) (keyOf_int i hi) (str_elem (by rw [bsl_size]; unfold maxLen; omega)) rfl (fun w_70 hs_71 => ?_)
              rw [macD_putL (t := d) hk9.rise (of_decide_eq_false ((seqB_nil _).symm.trans hb_64))] at hs_71
              refine SL.nil ?_
              refine CW.seq ?_
              refine CW.region ?_
              refine SL.v (.pointer (some ⟨g, 0, none⟩)) ?_
              refine SL.v (.map (some b_3)) ?_
              refine SL.v (.pointer (some ⟨g, 0, none⟩)) ?_
              refine SL.v (.pointer (some ⟨g, 0, none⟩)) ?_
              refine SL.storeH (i := 2) (g := g) (off := 0) (v := .map (some b_3)) (L' := [mpH Try.prog 3 9 b_3 (cc + 1) (macD (putL l i cl d)), oH ob n (macD l), pt g #[.map (some b_3)] 35]) hs_71 rfl rfl rfl (by kernel_rfl) (by kernel_rfl) rfl (by kernel_rfl) (by kernel_rfl) rfl (by kernel_rfl) rfl (fun w_72 hs_73 => ?_)
              refine SL.nil ?_
              refine CW.seq ?_
              refine CW.region ?_
              refine SL.v (.int .i64 0) ?_
              refine SL.nil ?_
              refine CW.ret ?_
              repeat with_reducible first | refine PThen.ret ?_ | refine PBlock.ret ?_
              refine PRet.tmp (t := 10) (v := .int .i64 0) rfl rfl (by kernel_rfl) ?_
              have hd_ : D9 = (putL l i cl (d), 0) := hD9.trans (defR_put (t := d) (by omega) (by rw [hb_47]; rfl) (by omega))
              rw [hd_]
              exact ⟨_, _, rfl, .inr ⟨rfl, rfl, _, _, _, rfl, rfl⟩, hs_73.pick [2, 0] rfl⟩
end Go.Proofs.Ytaeppimldbknhaa
