/-
  Define of the macros' store, for plain texts (gen_mpf.py).
-/
import Derived.Test.YtaeppimldbknhaaShelf
import Derived.Test.YtaeppimldbknhaaZMpE
namespace Go.Proofs.Ytaeppimldbknhaa
set_option linter.unusedSimpArgs false
set_option linter.unusedVariables false
open Go.RowKit Go.Maps
set_option linter.unusedVariables false

theorem sclone_any (s : ByteArray) (w : World) (hs : s.size ≤ 1000000) : Calls Try.prog 49 #[.string s] w fun e w' => e = .returned (.string s) ∧ Gr w w' :=
  (Try.stringslite_Clone s w (by omega)).mono fun e w' h => ⟨h.1, h.2⟩
set_option maxRecDepth 100000 in
theorem clone_s (s : ByteArray) (w : World) (hs : s.size ≤ 1000000) : Calls Try.prog 31 #[.string s] w fun e w' => e = .returned (.string s) ∧ Gr w w' := by
  refine calls_sx (n := 5) (args := [.string s]) Try.func31 rfl rfl rfl ?_
  have hs0 := SH.none w
  refine CW.seq ?_
  refine CW.region ?_
  refine SL.v (.string ⟨#[]⟩) ?_
  refine SL.nil ?_
  refine CW.seq ?_
  refine CW.region ?_
  refine SL.v (.string s) ?_
  refine SL.call (f := 49) (args := #[.string s]) (w1 := w) rfl rfl (by kernel_rfl) (sclone_any s w hs) ?_
  rintro x w_1 ⟨rfl, hc_2⟩
  refine ⟨.string s, rfl, ?_⟩
  have hs_3 := hs0.grow hc_2
  refine SL.v (.string s) ?_
  refine SL.nil ?_
  refine CW.ret ?_
  repeat with_reducible first | refine PThen.ret ?_ | refine PBlock.ret ?_
  refine PRet.tmp (t := 2) (v := .string s) rfl rfl (by kernel_rfl) ?_
  exact ⟨rfl, hs_3.gr⟩
set_option maxRecDepth 100000 in
set_option maxHeartbeats 4000000 in
theorem def_map (g : Nat) (i : Int) (s : ByteArray) (b n : Nat) (D : DataW Unit) (w : World) (hi : (Lit.int .i64 i).wf = true) (hi0 : 0 ≤ i) (hi1 : i < 64) (hs : s.size ≤ 10000) (hOk : MapOk D) (hn : Maps.size D ≤ 1000) (hb : totD D ≤ 6144) (hno : Maps.has D (.int .i64 i) = false) : Tr Try.prog 12 #[.pointer (some ⟨g, 0, none⟩), .int .i64 i, .bool false, .bool false, .string s] w [pt g #[.map (some b)] 35, mpH Try.prog 3 9 b n D] (fun v Q => (s.size + totD D ≤ 6144 ∧ v = .int .i64 0 ∧ ∃ b' c E, totD E = totD D + s.size ∧ (∀ kl, kl ≠ .int .i64 i → Maps.has E kl = Maps.has D kl) ∧ c ≤ Maps.size D + 1 ∧ Q = [pt g #[.map (some b')] 35, mpH Try.prog 3 9 b' c E]) ∨ (6144 < s.size + totD D ∧ v = .int .i64 5 ∧ Q = [pt g #[.map (some b)] 35, mpH Try.prog 3 9 b n D])) := by
  refine Tr.of fun U hs0 => ?_
  refine calls_sx (n := 60) (args := [.pointer (some ⟨g, 0, none⟩), .int .i64 i, .bool false, .bool false, .string s]) Try.func12 rfl rfl rfl ?_
  refine CW.seq ?_
  refine CW.region ?_
  refine SL.v (.int .i64 0) ?_
  refine SL.nil ?_
  refine CW.seq ?_
  refine CW.seq ?_
  refine CW.region ?_
  refine SL.v (.int .i64 i) ?_
  refine SL.v (.bool (decide (i < 0))) ?_
  refine SL.v (.bool (decide (i < 0))) ?_
  rcases Bool.eq_false_or_eq_true (decide (i < 0)) with hb_1 | hb_1
  · try rw [hb_1]
    have hqhb_1 := of_decide_eq_true hb_1
    refine SL.no true ?_
    refine SL.no true ?_
    refine SL.v (.bool true) ?_
    refine SL.nil ?_
    refine CW.cond_true (by kernel_rfl) ?_
    refine CW.seq ?_
    refine CW.region ?_
    refine SL.v (.int .i64 1) ?_
    refine SL.nil ?_
    refine CW.ret ?_
    repeat with_reducible first | refine PThen.ret ?_ | refine PBlock.ret ?_
    refine PRet.tmp (t := 10) (v := .int .i64 1) rfl rfl (by kernel_rfl) ?_
    exact absurd hi0 (by omega)
  · try rw [hb_1]
    have hqhb_1 := of_decide_eq_false hb_1
    refine SL.go ?_
    refine SL.v (.int .i64 i) ?_
    refine SL.go ?_
    refine SL.v (.bool (decide (64 ≤ i))) ?_
    refine SL.v (.bool (decide (64 ≤ i))) ?_
    refine SL.nil ?_
    rcases Bool.eq_false_or_eq_true (decide (64 ≤ i)) with hb_2 | hb_2
    · try rw [hb_2]
      have hqhb_2 := of_decide_eq_true hb_2
      refine CW.cond_true (by kernel_rfl) ?_
      refine CW.seq ?_
      refine CW.region ?_
      refine SL.v (.int .i64 1) ?_
      refine SL.nil ?_
      refine CW.ret ?_
      repeat with_reducible first | refine PThen.ret ?_ | refine PBlock.ret ?_
      refine PRet.tmp (t := 10) (v := .int .i64 1) rfl rfl (by kernel_rfl) ?_
      exact absurd hi0 (by omega)
    · try rw [hb_2]
      have hqhb_2 := of_decide_eq_false hb_2
      refine CW.cond_false (by kernel_rfl) ?_
      refine CW.skip ?_
      refine CW.seq ?_
      refine CW.region ?_
      refine SL.mpNew 3 9 hs0 rfl rfl (by kernel_rfl) (fun b_3 w_4 hs_5 => ?_)
      have hs_5 : SH U w w_4 [pt g #[.map (some b)] 35, mpH Try.prog 3 9 b n D, mpH Try.prog 3 9 b_3 0 (DataW.map [])] := hs_5
      refine SL.v (.map (some b_3)) ?_
      refine SL.nil ?_
      refine CW.seq ?_
      refine CW.seq ?_
      refine CW.region ?_
      refine SL.v (.bool false) ?_
      refine SL.v (.bool true) ?_
      refine SL.nil ?_
      refine CW.cond_true (by kernel_rfl) ?_
      refine CW.region ?_
      refine SL.v (.map (some b_3)) ?_
      refine SL.v (.pointer (some ⟨g, 0, none⟩)) ?_
      refine SL.v (.pointer (some ⟨g, 0, none⟩)) ?_
      refine SL.v (.pointer (some ⟨g, 0, none⟩)) ?_
      refine SL.load (g := g) (off := 0) (v := .map (some b)) rfl rfl rfl (by kernel_rfl) (hs_5.pt_at (i := 0) rfl) (by kernel_rfl) ?_
      refine SL.callH (f := 29) (args := #[.map (some b_3), .map (some b)]) (Pre := [mpH Try.prog 3 9 b_3 0 (DataW.map []), mpH Try.prog 3 9 b n D]) (Rest := [pt g #[.map (some b)] 35]) [2, 1] hs_5 rfl rfl (by kernel_rfl) rfl (copy_tr b_3 b n D w_4 hOk (by omega)) ?_
      rintro v_ Q_ w_6 ⟨rfl, c, E, htE, hhE, hcE, rfl⟩ hs_8
      have hs_8 : SH U w w_6 [mpH Try.prog 3 9 b_3 c E, mpH Try.prog 3 9 b n D, pt g #[.map (some b)] 35] := hs_8
      refine SL.nil ?_
      refine CW.seq ?_
      refine CW.region ?_
      refine SL.v (.map (some b_3)) ?_
      refine SL.v (.int .i64 i) ?_
      refine SL.mpDel (i := 0) (b := b_3) (c := c) (D := E) (kl := (.int .i64 i)) (L' := [mpH Try.prog 3 9 b_3 c (E.del (.int .i64 i)), mpH Try.prog 3 9 b n D, pt g #[.map (some b)] 35]) keyI hs_8 rfl rfl rfl rfl (by kernel_rfl) (by kernel_rfl) rfl (keyOf_int i hi) rfl (fun w_9 hs_10 => ?_)
      rw [del_of_not_has ((by rw [hhE]; exact hno))] at hs_10
      refine SL.nil ?_
      refine CW.seq ?_
      refine CW.region ?_
      refine SL.v (.map (some b_3)) ?_
      have hOkE := hs_10.mapOk (i := 0) rfl
      have hbE : totD E ≤ 1000000 := by omega
      refine SL.callH (f := 30) (args := #[.map (some b_3)]) (Pre := [mpH Try.prog 3 9 b_3 c E]) (Rest := [mpH Try.prog 3 9 b n D, pt g #[.map (some b)] 35]) [0] hs_10 rfl rfl (by kernel_rfl) rfl (used_tr b_3 c (E) w_9 hOkE hbE) ?_
      rintro v_ Q_ w_11 ⟨rfl, rfl⟩ hs_13
      have hs_13 : SH U w w_11 [mpH Try.prog 3 9 b_3 c E, mpH Try.prog 3 9 b n D, pt g #[.map (some b)] 35] := hs_13
      refine SL.val (v := .int .i64 (6144 - ((totD (E) : Nat) : Int))) (w' := w_11) rfl rfl (by have hw : IntKind.i64.wrap (6144 - ((totD (E) : Nat) : Int)) = 6144 - ((totD (E) : Nat) : Int) := IntWalk.i64_in _ (by omega); exact run_eqv (by kernel_rfl) (congrArg (fun z => Value.int .i64 z) hw)) ?_
      refine SL.v (.int .i64 (6144 - ((totD (E) : Nat) : Int))) ?_
      refine SL.nil ?_
      refine CW.seq ?_
      refine CW.seq ?_
      refine CW.region ?_
      refine SL.v (.bool false) ?_
      refine SL.nil ?_
      refine CW.cond_false (by kernel_rfl) ?_
      refine CW.skip ?_
      refine CW.seq ?_
      refine CW.seq ?_
      refine CW.region ?_
      refine SL.v (.string s) ?_
      refine SL.val (v := .int .i64 ((s.size : Nat) : Int)) (w' := w_11) rfl rfl (run_slen rfl (by kernel_rfl) (by kernel_rfl) rfl) ?_
      refine SL.v (.int .i64 (6144 - ((totD (E) : Nat) : Int))) ?_
      refine SL.v (.bool (decide ((6144 - ((totD (E) : Nat) : Int)) < ((s.size : Nat) : Int)))) ?_
      refine SL.nil ?_
      rcases Bool.eq_false_or_eq_true (decide ((6144 - ((totD (E) : Nat) : Int)) < ((s.size : Nat) : Int))) with hb_14 | hb_14
      · try rw [hb_14]
        have hqhb_14 := of_decide_eq_true hb_14
        refine CW.cond_true (by kernel_rfl) ?_
        refine CW.seq ?_
        refine CW.region ?_
        refine SL.v (.int .i64 5) ?_
        refine SL.nil ?_
        refine CW.ret ?_
        repeat with_reducible first | refine PThen.ret ?_ | refine PBlock.ret ?_
        refine PRet.tmp (t := 10) (v := .int .i64 5) rfl rfl (by kernel_rfl) ?_
        exact ⟨_, _, rfl, .inr ⟨by omega, rfl, rfl⟩, hs_13.pick [2, 1] rfl⟩
      · try rw [hb_14]
        have hqhb_14 := of_decide_eq_false hb_14
        refine CW.cond_false (by kernel_rfl) ?_
        refine CW.skip ?_
        refine CW.seq ?_
        refine CW.seq ?_
        refine CW.region ?_
        refine SL.v (.string s) ?_
        refine SL.val (v := .bool (!(seqB s ⟨#[]⟩))) (w' := w_11) rfl rfl (run_strneB (a := s) (b := ⟨#[]⟩) (c := seqB s ⟨#[]⟩) rfl (by kernel_rfl) (by kernel_rfl) rfl) ?_
        refine SL.nil ?_
        rcases Bool.eq_false_or_eq_true (seqB s ⟨#[]⟩) with hb_15 | hb_15
        · try rw [hb_15]
          refine CW.cond_false (by kernel_rfl) ?_
          refine CW.skip ?_
          refine CW.seq ?_
          refine CW.region ?_
          refine SL.v (.pointer (some ⟨g, 0, none⟩)) ?_
          refine SL.v (.map (some b_3)) ?_
          refine SL.v (.pointer (some ⟨g, 0, none⟩)) ?_
          refine SL.v (.pointer (some ⟨g, 0, none⟩)) ?_
          refine SL.storeH (i := 2) (g := g) (off := 0) (v := .map (some b_3)) (L' := [mpH Try.prog 3 9 b_3 c E, mpH Try.prog 3 9 b n D, pt g #[.map (some b_3)] 35]) hs_13 rfl rfl rfl (by kernel_rfl) (by kernel_rfl) rfl (by kernel_rfl) (by kernel_rfl) rfl (by kernel_rfl) rfl (fun w_16 hs_17 => ?_)
          refine SL.nil ?_
          refine CW.seq ?_
          refine CW.region ?_
          refine SL.v (.int .i64 0) ?_
          refine SL.nil ?_
          refine CW.ret ?_
          repeat with_reducible first | refine PThen.ret ?_ | refine PBlock.ret ?_
          refine PRet.tmp (t := 10) (v := .int .i64 0) rfl rfl (by kernel_rfl) ?_
          have hs0_ : s.size = 0 := by rw [seqB_eq hb_15]; rfl
          exact ⟨_, _, rfl, .inl ⟨by omega, rfl, _, _, _, by rw [htE]; omega, fun kl _ => hhE kl, by omega, rfl⟩, hs_17.pick [2, 0] rfl⟩
        · try rw [hb_15]
          refine CW.cond_true (by kernel_rfl) ?_
          refine CW.region ?_
          refine SL.v (.map (some b_3)) ?_
          refine SL.v (.int .i64 i) ?_
          refine SL.v (.string s) ?_
          refine SL.call (f := 31) (args := #[.string s]) (w1 := w_11) rfl rfl (by kernel_rfl) (clone_s s w_11 (by omega)) ?_
          rintro x w_18 ⟨rfl, hc_19⟩
          refine ⟨.string s, rfl, ?_⟩
          have hs_20 := hs_13.grow hc_19
          refine SL.mpPut (i := 0) (b := b_3) (c := c) (D := E) (kl := (.int .i64 i)) (d := (.lit (.string s.data.toList))) (ps := []) (L' := [mpH Try.prog 3 9 b_3 (c + 1) (E.put (.int .i64 i) (.lit (.string s.data.toList))), mpH Try.prog 3 9 b n D, pt g #[.map (some b)] 35]) keyI hs_20 rfl rfl rfl rfl (by kernel_rfl) (by kernel_rfl) (by kernel_rfl) rfl (by unfold maxLen; omega) (keyOf_int i hi) (str_elem (by unfold maxLen; omega)) rfl (fun w_21 hs_22 => ?_)
          refine SL.nil ?_
          refine CW.seq ?_
          refine CW.region ?_
          refine SL.v (.pointer (some ⟨g, 0, none⟩)) ?_
          refine SL.v (.map (some b_3)) ?_
          refine SL.v (.pointer (some ⟨g, 0, none⟩)) ?_
          refine SL.v (.pointer (some ⟨g, 0, none⟩)) ?_
          refine SL.storeH (i := 2) (g := g) (off := 0) (v := .map (some b_3)) (L' := [mpH Try.prog 3 9 b_3 (c + 1) (E.put (.int .i64 i) (.lit (.string s.data.toList))), mpH Try.prog 3 9 b n D, pt g #[.map (some b_3)] 35]) hs_22 rfl rfl rfl (by kernel_rfl) (by kernel_rfl) rfl (by kernel_rfl) (by kernel_rfl) rfl (by kernel_rfl) rfl (fun w_23 hs_24 => ?_)
          refine SL.nil ?_
          refine CW.seq ?_
          refine CW.region ?_
          refine SL.v (.int .i64 0) ?_
          refine SL.nil ?_
          refine CW.ret ?_
          repeat with_reducible first | refine PThen.ret ?_ | refine PBlock.ret ?_
          refine PRet.tmp (t := 10) (v := .int .i64 0) rfl rfl (by kernel_rfl) ?_
          have hp_ := hOkE.put (kl := .int .i64 i) (d := .lit (.string s.data.toList)) (by rw [hhE]; exact hno)
          rw [len_str] at hp_
          exact ⟨_, _, rfl, .inl ⟨by omega, rfl, _, _, _, by rw [hp_]; omega, fun kl hne => by rw [has_put_other hne]; exact hhE kl, by omega, rfl⟩, hs_24.pick [2, 0] rfl⟩
set_option maxRecDepth 100000 in
set_option maxHeartbeats 4000000 in
theorem def_clear (g : Nat) (i : Int) (s : ByteArray) (v0 : Value) (w : World) (hi : (Lit.int .i64 i).wf = true) (hi0 : 0 ≤ i) (hi1 : i < 64) (hs : s.size ≤ 10000) : Tr Try.prog 12 #[.pointer (some ⟨g, 0, none⟩), .int .i64 i, .bool true, .bool false, .string s] w [pt g #[v0] 35] (fun v Q => (s.size + 0 ≤ 6144 ∧ v = .int .i64 0 ∧ ∃ b' c E, totD E = 0 + s.size ∧ (∀ kl, kl ≠ .int .i64 i → Maps.has E kl = false) ∧ c ≤ 0 + 1 ∧ Q = [pt g #[.map (some b')] 35, mpH Try.prog 3 9 b' c E]) ∨ (6144 < s.size + 0 ∧ v = .int .i64 5 ∧ Q = [pt g #[v0] 35])) := by
  refine Tr.of fun U hs0 => ?_
  refine calls_sx (n := 60) (args := [.pointer (some ⟨g, 0, none⟩), .int .i64 i, .bool true, .bool false, .string s]) Try.func12 rfl rfl rfl ?_
  refine CW.seq ?_
  refine CW.region ?_
  refine SL.v (.int .i64 0) ?_
  refine SL.nil ?_
  refine CW.seq ?_
  refine CW.seq ?_
  refine CW.region ?_
  refine SL.v (.int .i64 i) ?_
  refine SL.v (.bool (decide (i < 0))) ?_
  refine SL.v (.bool (decide (i < 0))) ?_
  rcases Bool.eq_false_or_eq_true (decide (i < 0)) with hb_1 | hb_1
  · try rw [hb_1]
    have hqhb_1 := of_decide_eq_true hb_1
    refine SL.no true ?_
    refine SL.no true ?_
    refine SL.v (.bool true) ?_
    refine SL.nil ?_
    refine CW.cond_true (by kernel_rfl) ?_
    refine CW.seq ?_
    refine CW.region ?_
    refine SL.v (.int .i64 1) ?_
    refine SL.nil ?_
    refine CW.ret ?_
    repeat with_reducible first | refine PThen.ret ?_ | refine PBlock.ret ?_
    refine PRet.tmp (t := 10) (v := .int .i64 1) rfl rfl (by kernel_rfl) ?_
    exact absurd hi0 (by omega)
  · try rw [hb_1]
    have hqhb_1 := of_decide_eq_false hb_1
    refine SL.go ?_
    refine SL.v (.int .i64 i) ?_
    refine SL.go ?_
    refine SL.v (.bool (decide (64 ≤ i))) ?_
    refine SL.v (.bool (decide (64 ≤ i))) ?_
    refine SL.nil ?_
    rcases Bool.eq_false_or_eq_true (decide (64 ≤ i)) with hb_2 | hb_2
    · try rw [hb_2]
      have hqhb_2 := of_decide_eq_true hb_2
      refine CW.cond_true (by kernel_rfl) ?_
      refine CW.seq ?_
      refine CW.region ?_
      refine SL.v (.int .i64 1) ?_
      refine SL.nil ?_
      refine CW.ret ?_
      repeat with_reducible first | refine PThen.ret ?_ | refine PBlock.ret ?_
      refine PRet.tmp (t := 10) (v := .int .i64 1) rfl rfl (by kernel_rfl) ?_
      exact absurd hi0 (by omega)
    · try rw [hb_2]
      have hqhb_2 := of_decide_eq_false hb_2
      refine CW.cond_false (by kernel_rfl) ?_
      refine CW.skip ?_
      refine CW.seq ?_
      refine CW.region ?_
      refine SL.mpNew 3 9 hs0 rfl rfl (by kernel_rfl) (fun b_3 w_4 hs_5 => ?_)
      have hs_5 : SH U w w_4 [pt g #[v0] 35, mpH Try.prog 3 9 b_3 0 (DataW.map [])] := hs_5
      refine SL.v (.map (some b_3)) ?_
      refine SL.nil ?_
      refine CW.seq ?_
      refine CW.seq ?_
      refine CW.region ?_
      refine SL.v (.bool true) ?_
      refine SL.v (.bool false) ?_
      refine SL.nil ?_
      refine CW.cond_false (by kernel_rfl) ?_
      refine CW.skip ?_
      refine CW.seq ?_
      refine CW.region ?_
      refine SL.v (.map (some b_3)) ?_
      refine SL.v (.int .i64 i) ?_
      refine SL.mpDel (i := 1) (b := b_3) (c := 0) (D := DataW.map []) (kl := (.int .i64 i)) (L' := [pt g #[v0] 35, mpH Try.prog 3 9 b_3 0 ((DataW.map []).del (.int .i64 i))]) keyI hs_5 rfl rfl rfl rfl (by kernel_rfl) (by kernel_rfl) rfl (keyOf_int i hi) rfl (fun w_6 hs_7 => ?_)
      rw [del_of_not_has ((by rfl))] at hs_7
      refine SL.nil ?_
      refine CW.seq ?_
      refine CW.region ?_
      refine SL.v (.map (some b_3)) ?_
      have hOkE := hs_7.mapOk (i := 1) rfl
      have htE : totD (DataW.map []) = 0 := rfl
      have hbE : totD (DataW.map []) ≤ 1000000 := by rw [htE]; decide
      refine SL.callH (f := 30) (args := #[.map (some b_3)]) (Pre := [mpH Try.prog 3 9 b_3 0 (DataW.map [])]) (Rest := [pt g #[v0] 35]) [1] hs_7 rfl rfl (by kernel_rfl) rfl (used_tr b_3 0 (DataW.map []) w_6 hOkE hbE) ?_
      rintro v_ Q_ w_8 ⟨rfl, rfl⟩ hs_10
      have hs_10 : SH U w w_8 [mpH Try.prog 3 9 b_3 0 (DataW.map []), pt g #[v0] 35] := hs_10
      refine SL.val (v := .int .i64 (6144 - ((totD (DataW.map []) : Nat) : Int))) (w' := w_8) rfl rfl (by have hw : IntKind.i64.wrap (6144 - ((totD (DataW.map []) : Nat) : Int)) = 6144 - ((totD (DataW.map []) : Nat) : Int) := IntWalk.i64_in _ (by omega); exact run_eqv (by kernel_rfl) (congrArg (fun z => Value.int .i64 z) hw)) ?_
      refine SL.v (.int .i64 (6144 - ((totD (DataW.map []) : Nat) : Int))) ?_
      refine SL.nil ?_
      refine CW.seq ?_
      refine CW.seq ?_
      refine CW.region ?_
      refine SL.v (.bool false) ?_
      refine SL.nil ?_
      refine CW.cond_false (by kernel_rfl) ?_
      refine CW.skip ?_
      refine CW.seq ?_
      refine CW.seq ?_
      refine CW.region ?_
      refine SL.v (.string s) ?_
      refine SL.val (v := .int .i64 ((s.size : Nat) : Int)) (w' := w_8) rfl rfl (run_slen rfl (by kernel_rfl) (by kernel_rfl) rfl) ?_
      refine SL.v (.int .i64 (6144 - ((totD (DataW.map []) : Nat) : Int))) ?_
      refine SL.v (.bool (decide ((6144 - ((totD (DataW.map []) : Nat) : Int)) < ((s.size : Nat) : Int)))) ?_
      refine SL.nil ?_
      rcases Bool.eq_false_or_eq_true (decide ((6144 - ((totD (DataW.map []) : Nat) : Int)) < ((s.size : Nat) : Int))) with hb_11 | hb_11
      · try rw [hb_11]
        have hqhb_11 := of_decide_eq_true hb_11
        refine CW.cond_true (by kernel_rfl) ?_
        refine CW.seq ?_
        refine CW.region ?_
        refine SL.v (.int .i64 5) ?_
        refine SL.nil ?_
        refine CW.ret ?_
        repeat with_reducible first | refine PThen.ret ?_ | refine PBlock.ret ?_
        refine PRet.tmp (t := 10) (v := .int .i64 5) rfl rfl (by kernel_rfl) ?_
        exact ⟨_, _, rfl, .inr ⟨by omega, rfl, rfl⟩, hs_10.pick [1] rfl⟩
      · try rw [hb_11]
        have hqhb_11 := of_decide_eq_false hb_11
        refine CW.cond_false (by kernel_rfl) ?_
        refine CW.skip ?_
        refine CW.seq ?_
        refine CW.seq ?_
        refine CW.region ?_
        refine SL.v (.string s) ?_
        refine SL.val (v := .bool (!(seqB s ⟨#[]⟩))) (w' := w_8) rfl rfl (run_strneB (a := s) (b := ⟨#[]⟩) (c := seqB s ⟨#[]⟩) rfl (by kernel_rfl) (by kernel_rfl) rfl) ?_
        refine SL.nil ?_
        rcases Bool.eq_false_or_eq_true (seqB s ⟨#[]⟩) with hb_12 | hb_12
        · try rw [hb_12]
          refine CW.cond_false (by kernel_rfl) ?_
          refine CW.skip ?_
          refine CW.seq ?_
          refine CW.region ?_
          refine SL.v (.pointer (some ⟨g, 0, none⟩)) ?_
          refine SL.v (.map (some b_3)) ?_
          refine SL.v (.pointer (some ⟨g, 0, none⟩)) ?_
          refine SL.v (.pointer (some ⟨g, 0, none⟩)) ?_
          refine SL.storeH (i := 1) (g := g) (off := 0) (v := .map (some b_3)) (L' := [mpH Try.prog 3 9 b_3 0 (DataW.map []), pt g #[.map (some b_3)] 35]) hs_10 rfl rfl rfl (by kernel_rfl) (by kernel_rfl) rfl (by kernel_rfl) (by kernel_rfl) rfl (by kernel_rfl) rfl (fun w_13 hs_14 => ?_)
          refine SL.nil ?_
          refine CW.seq ?_
          refine CW.region ?_
          refine SL.v (.int .i64 0) ?_
          refine SL.nil ?_
          refine CW.ret ?_
          repeat with_reducible first | refine PThen.ret ?_ | refine PBlock.ret ?_
          refine PRet.tmp (t := 10) (v := .int .i64 0) rfl rfl (by kernel_rfl) ?_
          have hs0_ : s.size = 0 := by rw [seqB_eq hb_12]; rfl
          exact ⟨_, _, rfl, .inl ⟨by omega, rfl, _, _, _, by rw [htE]; omega, fun kl _ => rfl, by omega, rfl⟩, hs_14.pick [1, 0] rfl⟩
        · try rw [hb_12]
          refine CW.cond_true (by kernel_rfl) ?_
          refine CW.region ?_
          refine SL.v (.map (some b_3)) ?_
          refine SL.v (.int .i64 i) ?_
          refine SL.v (.string s) ?_
          refine SL.call (f := 31) (args := #[.string s]) (w1 := w_8) rfl rfl (by kernel_rfl) (clone_s s w_8 (by omega)) ?_
          rintro x w_15 ⟨rfl, hc_16⟩
          refine ⟨.string s, rfl, ?_⟩
          have hs_17 := hs_10.grow hc_16
          refine SL.mpPut (i := 0) (b := b_3) (c := 0) (D := DataW.map []) (kl := (.int .i64 i)) (d := (.lit (.string s.data.toList))) (ps := []) (L' := [mpH Try.prog 3 9 b_3 (0 + 1) ((DataW.map []).put (.int .i64 i) (.lit (.string s.data.toList))), pt g #[v0] 35]) keyI hs_17 rfl rfl rfl rfl (by kernel_rfl) (by kernel_rfl) (by kernel_rfl) rfl (by unfold maxLen; omega) (keyOf_int i hi) (str_elem (by unfold maxLen; omega)) rfl (fun w_18 hs_19 => ?_)
          refine SL.nil ?_
          refine CW.seq ?_
          refine CW.region ?_
          refine SL.v (.pointer (some ⟨g, 0, none⟩)) ?_
          refine SL.v (.map (some b_3)) ?_
          refine SL.v (.pointer (some ⟨g, 0, none⟩)) ?_
          refine SL.v (.pointer (some ⟨g, 0, none⟩)) ?_
          refine SL.storeH (i := 1) (g := g) (off := 0) (v := .map (some b_3)) (L' := [mpH Try.prog 3 9 b_3 (0 + 1) ((DataW.map []).put (.int .i64 i) (.lit (.string s.data.toList))), pt g #[.map (some b_3)] 35]) hs_19 rfl rfl rfl (by kernel_rfl) (by kernel_rfl) rfl (by kernel_rfl) (by kernel_rfl) rfl (by kernel_rfl) rfl (fun w_20 hs_21 => ?_)
          refine SL.nil ?_
          refine CW.seq ?_
          refine CW.region ?_
          refine SL.v (.int .i64 0) ?_
          refine SL.nil ?_
          refine CW.ret ?_
          repeat with_reducible first | refine PThen.ret ?_ | refine PBlock.ret ?_
          refine PRet.tmp (t := 10) (v := .int .i64 0) rfl rfl (by kernel_rfl) ?_
          have hp_ := hOkE.put (kl := .int .i64 i) (d := .lit (.string s.data.toList)) (by rfl)
          rw [len_str] at hp_
          exact ⟨_, _, rfl, .inl ⟨by omega, rfl, _, _, _, by rw [hp_]; omega, fun kl hne => by rw [has_put_other hne]; rfl, by omega, rfl⟩, hs_21.pick [1, 0] rfl⟩
set_option maxRecDepth 100000 in
set_option maxHeartbeats 4000000 in
theorem def_nil (g : Nat) (i : Int) (s : ByteArray)  (w : World) (hi : (Lit.int .i64 i).wf = true) (hi0 : 0 ≤ i) (hi1 : i < 64) (hs : s.size ≤ 10000) : Tr Try.prog 12 #[.pointer (some ⟨g, 0, none⟩), .int .i64 i, .bool false, .bool false, .string s] w [pt g #[.map none] 35] (fun v Q => (s.size + 0 ≤ 6144 ∧ v = .int .i64 0 ∧ ∃ b' c E, totD E = 0 + s.size ∧ (∀ kl, kl ≠ .int .i64 i → Maps.has E kl = false) ∧ c ≤ 0 + 1 ∧ Q = [pt g #[.map (some b')] 35, mpH Try.prog 3 9 b' c E]) ∨ (6144 < s.size + 0 ∧ v = .int .i64 5 ∧ Q = [pt g #[.map none] 35])) := by
  refine Tr.of fun U hs0 => ?_
  refine calls_sx (n := 60) (args := [.pointer (some ⟨g, 0, none⟩), .int .i64 i, .bool false, .bool false, .string s]) Try.func12 rfl rfl rfl ?_
  refine CW.seq ?_
  refine CW.region ?_
  refine SL.v (.int .i64 0) ?_
  refine SL.nil ?_
  refine CW.seq ?_
  refine CW.seq ?_
  refine CW.region ?_
  refine SL.v (.int .i64 i) ?_
  refine SL.v (.bool (decide (i < 0))) ?_
  refine SL.v (.bool (decide (i < 0))) ?_
  rcases Bool.eq_false_or_eq_true (decide (i < 0)) with hb_1 | hb_1
  · try rw [hb_1]
    have hqhb_1 := of_decide_eq_true hb_1
    refine SL.no true ?_
    refine SL.no true ?_
    refine SL.v (.bool true) ?_
    refine SL.nil ?_
    refine CW.cond_true (by kernel_rfl) ?_
    refine CW.seq ?_
    refine CW.region ?_
    refine SL.v (.int .i64 1) ?_
    refine SL.nil ?_
    refine CW.ret ?_
    repeat with_reducible first | refine PThen.ret ?_ | refine PBlock.ret ?_
    refine PRet.tmp (t := 10) (v := .int .i64 1) rfl rfl (by kernel_rfl) ?_
    exact absurd hi0 (by omega)
  · try rw [hb_1]
    have hqhb_1 := of_decide_eq_false hb_1
    refine SL.go ?_
    refine SL.v (.int .i64 i) ?_
    refine SL.go ?_
    refine SL.v (.bool (decide (64 ≤ i))) ?_
    refine SL.v (.bool (decide (64 ≤ i))) ?_
    refine SL.nil ?_
    rcases Bool.eq_false_or_eq_true (decide (64 ≤ i)) with hb_2 | hb_2
    · try rw [hb_2]
      have hqhb_2 := of_decide_eq_true hb_2
      refine CW.cond_true (by kernel_rfl) ?_
      refine CW.seq ?_
      refine CW.region ?_
      refine SL.v (.int .i64 1) ?_
      refine SL.nil ?_
      refine CW.ret ?_
      repeat with_reducible first | refine PThen.ret ?_ | refine PBlock.ret ?_
      refine PRet.tmp (t := 10) (v := .int .i64 1) rfl rfl (by kernel_rfl) ?_
      exact absurd hi0 (by omega)
    · try rw [hb_2]
      have hqhb_2 := of_decide_eq_false hb_2
      refine CW.cond_false (by kernel_rfl) ?_
      refine CW.skip ?_
      refine CW.seq ?_
      refine CW.region ?_
      refine SL.mpNew 3 9 hs0 rfl rfl (by kernel_rfl) (fun b_3 w_4 hs_5 => ?_)
      have hs_5 : SH U w w_4 [pt g #[.map none] 35, mpH Try.prog 3 9 b_3 0 (DataW.map [])] := hs_5
      refine SL.v (.map (some b_3)) ?_
      refine SL.nil ?_
      refine CW.seq ?_
      refine CW.seq ?_
      refine CW.region ?_
      refine SL.v (.bool false) ?_
      refine SL.v (.bool true) ?_
      refine SL.nil ?_
      refine CW.cond_true (by kernel_rfl) ?_
      refine CW.region ?_
      refine SL.v (.map (some b_3)) ?_
      refine SL.v (.pointer (some ⟨g, 0, none⟩)) ?_
      refine SL.v (.pointer (some ⟨g, 0, none⟩)) ?_
      refine SL.v (.pointer (some ⟨g, 0, none⟩)) ?_
      refine SL.load (g := g) (off := 0) (v := .map none) rfl rfl rfl (by kernel_rfl) (hs_5.pt_at (i := 0) rfl) (by kernel_rfl) ?_
      refine SL.call (f := 29) (args := #[.map (some b_3), .map none]) (w1 := w_4) rfl rfl (by kernel_rfl) (copy_nil b_3 w_4) ?_
      rintro x w_6 ⟨rfl, hc_7⟩
      refine ⟨.tuple #[], rfl, ?_⟩
      have hs_8 := hs_5.grow hc_7
      refine SL.nil ?_
      refine CW.seq ?_
      refine CW.region ?_
      refine SL.v (.map (some b_3)) ?_
      refine SL.v (.int .i64 i) ?_
      refine SL.mpDel (i := 1) (b := b_3) (c := 0) (D := DataW.map []) (kl := (.int .i64 i)) (L' := [pt g #[.map none] 35, mpH Try.prog 3 9 b_3 0 ((DataW.map []).del (.int .i64 i))]) keyI hs_8 rfl rfl rfl rfl (by kernel_rfl) (by kernel_rfl) rfl (keyOf_int i hi) rfl (fun w_9 hs_10 => ?_)
      rw [del_of_not_has ((by rfl))] at hs_10
      refine SL.nil ?_
      refine CW.seq ?_
      refine CW.region ?_
      refine SL.v (.map (some b_3)) ?_
      have hOkE := hs_10.mapOk (i := 1) rfl
      have htE : totD (DataW.map []) = 0 := rfl
      have hbE : totD (DataW.map []) ≤ 1000000 := by rw [htE]; decide
      refine SL.callH (f := 30) (args := #[.map (some b_3)]) (Pre := [mpH Try.prog 3 9 b_3 0 (DataW.map [])]) (Rest := [pt g #[.map none] 35]) [1] hs_10 rfl rfl (by kernel_rfl) rfl (used_tr b_3 0 (DataW.map []) w_9 hOkE hbE) ?_
      rintro v_ Q_ w_11 ⟨rfl, rfl⟩ hs_13
      have hs_13 : SH U w w_11 [mpH Try.prog 3 9 b_3 0 (DataW.map []), pt g #[.map none] 35] := hs_13
      refine SL.val (v := .int .i64 (6144 - ((totD (DataW.map []) : Nat) : Int))) (w' := w_11) rfl rfl (by have hw : IntKind.i64.wrap (6144 - ((totD (DataW.map []) : Nat) : Int)) = 6144 - ((totD (DataW.map []) : Nat) : Int) := IntWalk.i64_in _ (by omega); exact run_eqv (by kernel_rfl) (congrArg (fun z => Value.int .i64 z) hw)) ?_
      refine SL.v (.int .i64 (6144 - ((totD (DataW.map []) : Nat) : Int))) ?_
      refine SL.nil ?_
      refine CW.seq ?_
      refine CW.seq ?_
      refine CW.region ?_
      refine SL.v (.bool false) ?_
      refine SL.nil ?_
      refine CW.cond_false (by kernel_rfl) ?_
      refine CW.skip ?_
      refine CW.seq ?_
      refine CW.seq ?_
      refine CW.region ?_
      refine SL.v (.string s) ?_
      refine SL.val (v := .int .i64 ((s.size : Nat) : Int)) (w' := w_11) rfl rfl (run_slen rfl (by kernel_rfl) (by kernel_rfl) rfl) ?_
      refine SL.v (.int .i64 (6144 - ((totD (DataW.map []) : Nat) : Int))) ?_
      refine SL.v (.bool (decide ((6144 - ((totD (DataW.map []) : Nat) : Int)) < ((s.size : Nat) : Int)))) ?_
      refine SL.nil ?_
      rcases Bool.eq_false_or_eq_true (decide ((6144 - ((totD (DataW.map []) : Nat) : Int)) < ((s.size : Nat) : Int))) with hb_14 | hb_14
      · try rw [hb_14]
        have hqhb_14 := of_decide_eq_true hb_14
        refine CW.cond_true (by kernel_rfl) ?_
        refine CW.seq ?_
        refine CW.region ?_
        refine SL.v (.int .i64 5) ?_
        refine SL.nil ?_
        refine CW.ret ?_
        repeat with_reducible first | refine PThen.ret ?_ | refine PBlock.ret ?_
        refine PRet.tmp (t := 10) (v := .int .i64 5) rfl rfl (by kernel_rfl) ?_
        exact ⟨_, _, rfl, .inr ⟨by omega, rfl, rfl⟩, hs_13.pick [1] rfl⟩
      · try rw [hb_14]
        have hqhb_14 := of_decide_eq_false hb_14
        refine CW.cond_false (by kernel_rfl) ?_
        refine CW.skip ?_
        refine CW.seq ?_
        refine CW.seq ?_
        refine CW.region ?_
        refine SL.v (.string s) ?_
        refine SL.val (v := .bool (!(seqB s ⟨#[]⟩))) (w' := w_11) rfl rfl (run_strneB (a := s) (b := ⟨#[]⟩) (c := seqB s ⟨#[]⟩) rfl (by kernel_rfl) (by kernel_rfl) rfl) ?_
        refine SL.nil ?_
        rcases Bool.eq_false_or_eq_true (seqB s ⟨#[]⟩) with hb_15 | hb_15
        · try rw [hb_15]
          refine CW.cond_false (by kernel_rfl) ?_
          refine CW.skip ?_
          refine CW.seq ?_
          refine CW.region ?_
          refine SL.v (.pointer (some ⟨g, 0, none⟩)) ?_
          refine SL.v (.map (some b_3)) ?_
          refine SL.v (.pointer (some ⟨g, 0, none⟩)) ?_
          refine SL.v (.pointer (some ⟨g, 0, none⟩)) ?_
          refine SL.storeH (i := 1) (g := g) (off := 0) (v := .map (some b_3)) (L' := [mpH Try.prog 3 9 b_3 0 (DataW.map []), pt g #[.map (some b_3)] 35]) hs_13 rfl rfl rfl (by kernel_rfl) (by kernel_rfl) rfl (by kernel_rfl) (by kernel_rfl) rfl (by kernel_rfl) rfl (fun w_16 hs_17 => ?_)
          refine SL.nil ?_
          refine CW.seq ?_
          refine CW.region ?_
          refine SL.v (.int .i64 0) ?_
          refine SL.nil ?_
          refine CW.ret ?_
          repeat with_reducible first | refine PThen.ret ?_ | refine PBlock.ret ?_
          refine PRet.tmp (t := 10) (v := .int .i64 0) rfl rfl (by kernel_rfl) ?_
          have hs0_ : s.size = 0 := by rw [seqB_eq hb_15]; rfl
          exact ⟨_, _, rfl, .inl ⟨by omega, rfl, _, _, _, by rw [htE]; omega, fun kl _ => rfl, by omega, rfl⟩, hs_17.pick [1, 0] rfl⟩
        · try rw [hb_15]
          refine CW.cond_true (by kernel_rfl) ?_
          refine CW.region ?_
          refine SL.v (.map (some b_3)) ?_
          refine SL.v (.int .i64 i) ?_
          refine SL.v (.string s) ?_
          refine SL.call (f := 31) (args := #[.string s]) (w1 := w_11) rfl rfl (by kernel_rfl) (clone_s s w_11 (by omega)) ?_
          rintro x w_18 ⟨rfl, hc_19⟩
          refine ⟨.string s, rfl, ?_⟩
          have hs_20 := hs_13.grow hc_19
          refine SL.mpPut (i := 0) (b := b_3) (c := 0) (D := DataW.map []) (kl := (.int .i64 i)) (d := (.lit (.string s.data.toList))) (ps := []) (L' := [mpH Try.prog 3 9 b_3 (0 + 1) ((DataW.map []).put (.int .i64 i) (.lit (.string s.data.toList))), pt g #[.map none] 35]) keyI hs_20 rfl rfl rfl rfl (by kernel_rfl) (by kernel_rfl) (by kernel_rfl) rfl (by unfold maxLen; omega) (keyOf_int i hi) (str_elem (by unfold maxLen; omega)) rfl (fun w_21 hs_22 => ?_)
          refine SL.nil ?_
          refine CW.seq ?_
          refine CW.region ?_
          refine SL.v (.pointer (some ⟨g, 0, none⟩)) ?_
          refine SL.v (.map (some b_3)) ?_
          refine SL.v (.pointer (some ⟨g, 0, none⟩)) ?_
          refine SL.v (.pointer (some ⟨g, 0, none⟩)) ?_
          refine SL.storeH (i := 1) (g := g) (off := 0) (v := .map (some b_3)) (L' := [mpH Try.prog 3 9 b_3 (0 + 1) ((DataW.map []).put (.int .i64 i) (.lit (.string s.data.toList))), pt g #[.map (some b_3)] 35]) hs_22 rfl rfl rfl (by kernel_rfl) (by kernel_rfl) rfl (by kernel_rfl) (by kernel_rfl) rfl (by kernel_rfl) rfl (fun w_23 hs_24 => ?_)
          refine SL.nil ?_
          refine CW.seq ?_
          refine CW.region ?_
          refine SL.v (.int .i64 0) ?_
          refine SL.nil ?_
          refine CW.ret ?_
          repeat with_reducible first | refine PThen.ret ?_ | refine PBlock.ret ?_
          refine PRet.tmp (t := 10) (v := .int .i64 0) rfl rfl (by kernel_rfl) ?_
          have hp_ := hOkE.put (kl := .int .i64 i) (d := .lit (.string s.data.toList)) (by rfl)
          rw [len_str] at hp_
          exact ⟨_, _, rfl, .inl ⟨by omega, rfl, _, _, _, by rw [hp_]; omega, fun kl hne => by rw [has_put_other hne]; rfl, by omega, rfl⟩, hs_24.pick [1, 0] rfl⟩
end Go.Proofs.Ytaeppimldbknhaa
