/-
  Same and Clear of the macros' store (gen_mpu.py).
-/
import Derived.Test.YtaeppimldbknhaaZMpT
namespace Go.Proofs.Ytaeppimldbknhaa
set_option linter.unusedSimpArgs false
set_option linter.unusedVariables false
open Go.RowKit Go.Maps
set_option linter.unusedVariables false

theorem eq_step {l m : List Mac} {left : Lit → Bool} {kl : Lit} {x : Int} {t0 : List UInt8} (hall : ∀ x t, getL l x = some t → left (.int .i64 x) = false → getL m x = some t) (hkl : kl = .int .i64 x) (hl : getL l x = some t0) (hm : getL m x = some t0) :
    ∀ x' t', getL l x' = some t' → (left (.int .i64 x') && !(Lit.int .i64 x').sameKey kl) = false → getL m x' = some t' := by
  intro x' t' h1 h2
  by_cases hx : x' = x
  · subst hx
    rw [hl] at h1
    rw [hm, h1]
  · refine hall x' t' h1 ?_
    rw [hkl, same_i] at h2
    have : (x' == x) = false := by simpa using hx
    rw [this] at h2
    simpa using h2
theorem some_of {m : List Mac} {x : Int} {t : List UInt8} (h1 : (getL m x).isSome = true) (h2 : seqB (bsl t) (bsl ((getL m x).getD [])) = true) : getL m x = some t := by
  cases hg : getL m x with
  | none => rw [hg] at h1; cases h1
  | some s => rw [hg] at h2; rw [bsl_inj (seqB_eq h2)]; rfl
set_option maxRecDepth 100000 in
set_option maxHeartbeats 4000000 in
theorem eq_mm (b n : Nat) (d k : Nat) (l m : List Mac) (w : World) (hl : riseL l) (hm : riseL m) : Tr Try.prog 33 #[.map (some b), .map (some d)] w [mpH Try.prog 3 9 b n (macD l), mpH Try.prog 3 9 d k (macD m)] (fun v Q => v = .bool (decide (l = m)) ∧ Q = [mpH Try.prog 3 9 b n (macD l), mpH Try.prog 3 9 d k (macD m)]) := by
  refine Tr.of fun U hs0 => ?_
  refine calls_sx (n := 34) (args := [.map (some b), .map (some d)]) Try.func33 rfl rfl rfl ?_
  refine CW.seq ?_
  refine CW.region ?_
  refine SL.v (.bool false) ?_
  refine SL.nil ?_
  refine CW.seq ?_
  refine CW.seq ?_
  refine CW.region ?_
  refine SL.v (.map (some b)) ?_
  refine SL.mpLen (i := 0) hs0 rfl rfl rfl rfl (by kernel_rfl) rfl ?_
  refine SL.v (.map (some d)) ?_
  refine SL.mpLen (i := 1) hs0 rfl rfl rfl rfl (by kernel_rfl) rfl ?_
  refine SL.v (.bool (!(((Maps.size (macD l) : Nat) : Int) == ((Maps.size (macD m) : Nat) : Int)))) ?_
  refine SL.nil ?_
  rcases Bool.eq_false_or_eq_true (((Maps.size (macD l) : Nat) : Int) == ((Maps.size (macD m) : Nat) : Int)) with hb_1 | hb_1
  · try rw [hb_1]
    refine CW.cond_false (by kernel_rfl) ?_
    refine CW.skip ?_
    refine CW.seq ?_
    refine CW.seq ?_
    refine CW.region ?_
    refine SL.v (.map (some b)) ?_
    refine SL.mpRange (L' := []) (i := 0) (b := b) (c := n) (D := macD l) keyI hs0 rfl rfl rfl rfl (by kernel_rfl) rfl (fun r_2 w_3 hs_4 => ?_)
    have hs_4 : SH U w w_3 [mpH Try.prog 3 9 d k (macD m), rgH Try.prog 3 9 b r_2 n (macD l) (Maps.has (macD l)) (Maps.size (macD l))] := hs_4
    refine SL.nil ?_
    refine CW.block ?_
    refine CW.loopI (fun m_ e9 w9 => ∃ (cnt : Nat), ∃ (left : Lit → Bool), m_ = cnt ∧ SH U w w9 [mpH Try.prog 3 9 d k (macD m), rgH Try.prog 3 9 b r_2 n (macD l) left cnt] ∧ (∀ x t, getL l x = some t → left (.int .i64 x) = false → getL m x = some t) ∧ e9 0 = .map (some b) ∧ e9 1 = .map (some d) ∧ e9 4 = .bool false ∧ e9 15 = .pointer (some ⟨r_2, 0, none⟩)) ⟨_, _, _, rfl, hs_4, (fun x t h hl => by rw [macD_has, h] at hl; cases hl), (by kernel_rfl), (by kernel_rfl), (by kernel_rfl), (by kernel_rfl)⟩ ?_
    rintro m_5 e_6 w_7 ⟨cnt, left, hm_9, hs_8, hall, hv_10, hv_11, hv_12, hv_13⟩
    obtain ⟨e_14, rfl⟩ : ∃ e_14, e_6 = put1 (put1 (put1 (put1 e_14 0 (.map (some b))) 1 (.map (some d))) 4 (.bool false)) 15 (.pointer (some ⟨r_2, 0, none⟩)) := ⟨e_6, (put_self hv_13).trans (congrArg (fun z => put1 z 15 (.pointer (some ⟨r_2, 0, none⟩))) ((put_self hv_12).trans (congrArg (fun z => put1 z 4 (.bool false)) ((put_self hv_11).trans (congrArg (fun z => put1 z 1 (.map (some d))) (put_self hv_10))))))⟩
    clear hv_10 hv_11 hv_12 hv_13
    refine CW.seq ?_
    refine CW.region ?_
    refine SL.mpNextS (i := 1) (b := b) (r := r_2) (c := n) (cnt := cnt) (D := macD l) (left := left) keyI (Try.underlying3) (Try.underlying9) hs_8 rfl rfl rfl (by kernel_rfl) rfl ?_ ?_
    · intro hc_15 hl_16
      refine SL.v (.bool false) ?_
      refine SL.nil ?_
      refine CW.seq ?_
      refine CW.cond_false (by kernel_rfl) ?_
      refine CW.exit ?_
      repeat with_reducible first | refine PThen.exit ?_ | refine PBlock.out rfl ?_
      with_reducible refine PBlock.here ?_
      repeat with_reducible refine PBlock.normal ?_
      refine CW.seq ?_
      refine CW.region ?_
      refine SL.v (.bool true) ?_
      refine SL.nil ?_
      refine CW.ret ?_
      repeat with_reducible first | refine PThen.ret ?_ | refine PBlock.ret ?_
      refine PRet.tmp (t := 4) (v := .bool true) rfl rfl (by kernel_rfl) ?_
      have hs9 := hs_8.mpDone (i := 1) rfl
      have hz9 := hb_1
      have he9 : l = m := list_of_get hl hm (by rw [macD_size, macD_size] at hz9; simp at hz9; omega) fun x t h => hall x t h (hl_16 _)
      rw [decide_eq_true he9]
      exact ⟨_, _, rfl, ⟨rfl, rfl⟩, hs9.pick [1, 0] rfl⟩
    · intro x_17 s_18 kl_19 w_20 cnt_21 hkey_22 hlk_23 hat_24 hsz_25 hlt_26 hs_27 hen_28
      have hs_27 : SH U w w_20 [mpH Try.prog 3 9 d k (macD m), rgH Try.prog 3 9 b r_2 n (macD l) (fun z => left z && !z.sameKey kl_19) cnt_21] := hs_27
      obtain ⟨t_29, rfl⟩ : ∃ t, s_18 = bsl t := ⟨_, bsl_of s_18⟩
      obtain ⟨hkl_, hwf⟩ := key_inv hkey_22
      have hat_ := hat_24
      rw [hkl_] at hat_
      have hgl_ := at_get hat_
      refine SL.v (.bool true) ?_
      refine SL.nil ?_
      refine CW.seq ?_
      refine CW.cond_true (by kernel_rfl) ?_
      refine CW.skip ?_
      refine CW.block ?_
      refine CW.seq ?_
      refine CW.region ?_
      refine SL.val (v := .tuple #[.int .i64 x_17, .string (bsl t_29)]) (w' := w_20) rfl rfl (run_entry rfl (by kernel_rfl) hen_28) ?_
      refine SL.v (.int .i64 x_17) ?_
      refine SL.v (.string (bsl t_29)) ?_
      refine SL.v (.int .i64 x_17) ?_
      refine SL.v (.string (bsl t_29)) ?_
      refine SL.nil ?_
      refine CW.seq ?_
      refine CW.region ?_
      refine SL.v (.map (some d)) ?_
      refine SL.v (.int .i64 x_17) ?_
      refine SL.mpLookM (i := 0) (b := d) (c := k) (M := m) (z := x_17) hs_27 rfl rfl rfl rfl rfl (by kernel_rfl) rfl hwf ?_
      refine SL.v (.tuple #[.string (bsl ((getL m x_17).getD [])), .bool ((getL m x_17).isSome)]) ?_
      refine SL.v (.string (bsl ((getL m x_17).getD []))) ?_
      refine SL.v (.bool ((getL m x_17).isSome)) ?_
      refine SL.v (.string (bsl ((getL m x_17).getD []))) ?_
      refine SL.v (.bool ((getL m x_17).isSome)) ?_
      refine SL.nil ?_
      refine CW.seq ?_
      refine CW.region ?_
      refine SL.v (.bool ((getL m x_17).isSome)) ?_
      refine SL.v (.bool (!((getL m x_17).isSome))) ?_
      refine SL.v (.bool (!((getL m x_17).isSome))) ?_
      rcases Bool.eq_false_or_eq_true ((getL m x_17).isSome) with hb_30 | hb_30
      · try rw [hb_30]
        refine SL.go ?_
        refine SL.v (.string (bsl t_29)) ?_
        refine SL.go ?_
        refine SL.v (.string (bsl ((getL m x_17).getD []))) ?_
        refine SL.go ?_
        refine SL.val (v := .bool (!(seqB (bsl t_29) (bsl ((getL m x_17).getD []))))) (w' := w_20) rfl rfl (run_strneB (a := bsl t_29) (b := bsl ((getL m x_17).getD [])) (c := seqB (bsl t_29) (bsl ((getL m x_17).getD []))) rfl (by kernel_rfl) (by kernel_rfl) rfl) ?_
        refine SL.v (.bool (!(seqB (bsl t_29) (bsl ((getL m x_17).getD []))))) ?_
        refine SL.nil ?_
        rcases Bool.eq_false_or_eq_true (seqB (bsl t_29) (bsl ((getL m x_17).getD []))) with hb_31 | hb_31
        · try rw [hb_31]
          refine CW.cond_false (by kernel_rfl) ?_
          refine CW.skip ?_
          exact ⟨_, ⟨cnt_21, _, rfl, hs_27, (eq_step hall hkl_ hgl_ (some_of hb_30 hb_31)), (by kernel_rfl), (by kernel_rfl), (by kernel_rfl), (by kernel_rfl)⟩, by omega⟩
        · try rw [hb_31]
          refine CW.cond_true (by kernel_rfl) ?_
          refine CW.seq ?_
          refine CW.region ?_
          refine SL.v (.bool false) ?_
          refine SL.nil ?_
          refine CW.ret ?_
          repeat with_reducible first | refine PThen.ret ?_ | refine PBlock.ret ?_
          refine PRet.tmp (t := 4) (v := .bool false) rfl rfl (by kernel_rfl) ?_
          have hs9 := hs_27.mpDone (i := 1) rfl
          have he9 : ¬ l = m := fun e_ => by rw [← e_, hgl_] at hb_31; simp [seqB_self] at hb_31
          rw [decide_eq_false he9]
          exact ⟨_, _, rfl, ⟨rfl, rfl⟩, hs9.pick [1, 0] rfl⟩
      · try rw [hb_30]
        refine SL.no true ?_
        refine SL.no true ?_
        refine SL.no true ?_
        refine SL.v (.bool true) ?_
        refine SL.nil ?_
        refine CW.cond_true (by kernel_rfl) ?_
        refine CW.seq ?_
        refine CW.region ?_
        refine SL.v (.bool false) ?_
        refine SL.nil ?_
        refine CW.ret ?_
        repeat with_reducible first | refine PThen.ret ?_ | refine PBlock.ret ?_
        refine PRet.tmp (t := 4) (v := .bool false) rfl rfl (by kernel_rfl) ?_
        have hs9 := hs_27.mpDone (i := 1) rfl
        have he9 : ¬ l = m := fun e_ => by rw [← e_, hgl_] at hb_30; cases hb_30
        rw [decide_eq_false he9]
        exact ⟨_, _, rfl, ⟨rfl, rfl⟩, hs9.pick [1, 0] rfl⟩
  · try rw [hb_1]
    refine CW.cond_true (by kernel_rfl) ?_
    refine CW.seq ?_
    refine CW.region ?_
    refine SL.v (.bool false) ?_
    refine SL.nil ?_
    refine CW.ret ?_
    repeat with_reducible first | refine PThen.ret ?_ | refine PBlock.ret ?_
    refine PRet.tmp (t := 4) (v := .bool false) rfl rfl (by kernel_rfl) ?_
    have hs9 := hs0
    have he9 : ¬ l = m := fun e_ => by have hz9 := hb_1; rw [e_] at hz9; simp at hz9
    rw [decide_eq_false he9]
    exact ⟨_, _, rfl, ⟨rfl, rfl⟩, hs9.pick [0, 0] rfl⟩
set_option maxRecDepth 100000 in
set_option maxHeartbeats 4000000 in
theorem eq_mn (b n : Nat) (l m : List Mac) (w : World) (hm0 : m = []) : Tr Try.prog 33 #[.map (some b), .map none] w [mpH Try.prog 3 9 b n (macD l)] (fun v Q => v = .bool (decide (l = m)) ∧ Q = [mpH Try.prog 3 9 b n (macD l)]) := by
  refine Tr.of fun U hs0 => ?_
  refine calls_sx (n := 34) (args := [.map (some b), .map none]) Try.func33 rfl rfl rfl ?_
  refine CW.seq ?_
  refine CW.region ?_
  refine SL.v (.bool false) ?_
  refine SL.nil ?_
  refine CW.seq ?_
  refine CW.seq ?_
  refine CW.region ?_
  refine SL.v (.map (some b)) ?_
  refine SL.mpLen (i := 0) hs0 rfl rfl rfl rfl (by kernel_rfl) rfl ?_
  refine SL.v (.map none) ?_
  refine SL.val (v := .int .i64 0) (w' := w) rfl rfl (by kernel_rfl) ?_
  refine SL.v (.bool (!(((Maps.size (macD l) : Nat) : Int) == 0))) ?_
  refine SL.nil ?_
  rcases Bool.eq_false_or_eq_true (((Maps.size (macD l) : Nat) : Int) == 0) with hb_1 | hb_1
  · try rw [hb_1]
    refine CW.cond_false (by kernel_rfl) ?_
    refine CW.skip ?_
    refine CW.seq ?_
    refine CW.seq ?_
    refine CW.region ?_
    refine SL.v (.map (some b)) ?_
    refine SL.mpRange (L' := []) (i := 0) (b := b) (c := n) (D := macD l) keyI hs0 rfl rfl rfl rfl (by kernel_rfl) rfl (fun r_2 w_3 hs_4 => ?_)
    have hs_4 : SH U w w_3 [rgH Try.prog 3 9 b r_2 n (macD l) (Maps.has (macD l)) (Maps.size (macD l))] := hs_4
    refine SL.nil ?_
    refine CW.block ?_
    refine CW.loopI (fun m_ e9 w9 => ∃ (cnt : Nat), ∃ (left : Lit → Bool), m_ = cnt ∧ SH U w w9 [rgH Try.prog 3 9 b r_2 n (macD l) left cnt] ∧ (∀ x t, getL l x = some t → left (.int .i64 x) = false → getL m x = some t) ∧ e9 0 = .map (some b) ∧ e9 1 = .map none ∧ e9 4 = .bool false ∧ e9 15 = .pointer (some ⟨r_2, 0, none⟩)) ⟨_, _, _, rfl, hs_4, (fun x t h hl => by rw [macD_has, h] at hl; cases hl), (by kernel_rfl), (by kernel_rfl), (by kernel_rfl), (by kernel_rfl)⟩ ?_
    rintro m_5 e_6 w_7 ⟨cnt, left, hm_9, hs_8, hall, hv_10, hv_11, hv_12, hv_13⟩
    obtain ⟨e_14, rfl⟩ : ∃ e_14, e_6 = put1 (put1 (put1 (put1 e_14 0 (.map (some b))) 1 (.map none)) 4 (.bool false)) 15 (.pointer (some ⟨r_2, 0, none⟩)) := ⟨e_6, (put_self hv_13).trans (congrArg (fun z => put1 z 15 (.pointer (some ⟨r_2, 0, none⟩))) ((put_self hv_12).trans (congrArg (fun z => put1 z 4 (.bool false)) ((put_self hv_11).trans (congrArg (fun z => put1 z 1 (.map none)) (put_self hv_10))))))⟩
    clear hv_10 hv_11 hv_12 hv_13
    refine CW.seq ?_
    refine CW.region ?_
    refine SL.mpNextS (i := 0) (b := b) (r := r_2) (c := n) (cnt := cnt) (D := macD l) (left := left) keyI (Try.underlying3) (Try.underlying9) hs_8 rfl rfl rfl (by kernel_rfl) rfl ?_ ?_
    · intro hc_15 hl_16
      refine SL.v (.bool false) ?_
      refine SL.nil ?_
      refine CW.seq ?_
      refine CW.cond_false (by kernel_rfl) ?_
      refine CW.exit ?_
      repeat with_reducible first | refine PThen.exit ?_ | refine PBlock.out rfl ?_
      with_reducible refine PBlock.here ?_
      repeat with_reducible refine PBlock.normal ?_
      refine CW.seq ?_
      refine CW.region ?_
      refine SL.v (.bool true) ?_
      refine SL.nil ?_
      refine CW.ret ?_
      repeat with_reducible first | refine PThen.ret ?_ | refine PBlock.ret ?_
      refine PRet.tmp (t := 4) (v := .bool true) rfl rfl (by kernel_rfl) ?_
      have hs9 := hs_8.mpDone (i := 0) rfl
      have hz9 := hb_1
      have he9 : l = m := by rw [macD_size] at hz9; have h_ := eq_of_beq hz9; rw [hm0]; exact List.eq_nil_of_length_eq_zero (by omega)
      rw [decide_eq_true he9]
      exact ⟨_, _, rfl, ⟨rfl, rfl⟩, hs9.pick [0] rfl⟩
    · intro x_17 s_18 kl_19 w_20 cnt_21 hkey_22 hlk_23 hat_24 hsz_25 hlt_26 hs_27 hen_28
      have hs_27 : SH U w w_20 [rgH Try.prog 3 9 b r_2 n (macD l) (fun z => left z && !z.sameKey kl_19) cnt_21] := hs_27
      obtain ⟨t_29, rfl⟩ : ∃ t, s_18 = bsl t := ⟨_, bsl_of s_18⟩
      obtain ⟨hkl_, hwf⟩ := key_inv hkey_22
      have hat_ := hat_24
      rw [hkl_] at hat_
      have hgl_ := at_get hat_
      refine SL.v (.bool true) ?_
      refine SL.nil ?_
      refine CW.seq ?_
      refine CW.cond_true (by kernel_rfl) ?_
      refine CW.skip ?_
      refine CW.block ?_
      refine CW.seq ?_
      refine CW.region ?_
      refine SL.val (v := .tuple #[.int .i64 x_17, .string (bsl t_29)]) (w' := w_20) rfl rfl (run_entry rfl (by kernel_rfl) hen_28) ?_
      refine SL.v (.int .i64 x_17) ?_
      refine SL.v (.string (bsl t_29)) ?_
      refine SL.v (.int .i64 x_17) ?_
      refine SL.v (.string (bsl t_29)) ?_
      refine SL.nil ?_
      refine CW.seq ?_
      refine CW.region ?_
      refine SL.v (.map none) ?_
      refine SL.v (.int .i64 x_17) ?_
      refine SL.mpLookNil (z := x_17) rfl rfl rfl rfl rfl (by kernel_rfl) hwf ?_
      refine SL.v (.tuple #[.string (bsl ([] : List UInt8)), .bool false]) ?_
      refine SL.v (.string (bsl ([] : List UInt8))) ?_
      refine SL.v (.bool false) ?_
      refine SL.v (.string (bsl ([] : List UInt8))) ?_
      refine SL.v (.bool false) ?_
      refine SL.nil ?_
      refine CW.seq ?_
      refine CW.region ?_
      refine SL.v (.bool false) ?_
      refine SL.v (.bool true) ?_
      refine SL.v (.bool true) ?_
      refine SL.no true ?_
      refine SL.no true ?_
      refine SL.no true ?_
      refine SL.v (.bool true) ?_
      refine SL.nil ?_
      refine CW.cond_true (by kernel_rfl) ?_
      refine CW.seq ?_
      refine CW.region ?_
      refine SL.v (.bool false) ?_
      refine SL.nil ?_
      refine CW.ret ?_
      repeat with_reducible first | refine PThen.ret ?_ | refine PBlock.ret ?_
      refine PRet.tmp (t := 4) (v := .bool false) rfl rfl (by kernel_rfl) ?_
      have hs9 := hs_27.mpDone (i := 0) rfl
      have he9 : ¬ l = m := fun e_ => by rw [e_, hm0] at hgl_; cases hgl_
      rw [decide_eq_false he9]
      exact ⟨_, _, rfl, ⟨rfl, rfl⟩, hs9.pick [0] rfl⟩
  · try rw [hb_1]
    refine CW.cond_true (by kernel_rfl) ?_
    refine CW.seq ?_
    refine CW.region ?_
    refine SL.v (.bool false) ?_
    refine SL.nil ?_
    refine CW.ret ?_
    repeat with_reducible first | refine PThen.ret ?_ | refine PBlock.ret ?_
    refine PRet.tmp (t := 4) (v := .bool false) rfl rfl (by kernel_rfl) ?_
    have hs9 := hs0
    have he9 : ¬ l = m := fun e_ => by have hz9 := hb_1; rw [e_, hm0] at hz9; simp [macD_size] at hz9
    rw [decide_eq_false he9]
    exact ⟨_, _, rfl, ⟨rfl, rfl⟩, hs9.pick [0] rfl⟩
set_option maxRecDepth 100000 in
set_option maxHeartbeats 4000000 in
theorem eq_nm (d k : Nat) (l m : List Mac) (w : World) (hm0 : l = []) : Tr Try.prog 33 #[.map none, .map (some d)] w [mpH Try.prog 3 9 d k (macD m)] (fun v Q => v = .bool (decide (l = m)) ∧ Q = [mpH Try.prog 3 9 d k (macD m)]) := by
  refine Tr.of fun U hs0 => ?_
  refine calls_sx (n := 34) (args := [.map none, .map (some d)]) Try.func33 rfl rfl rfl ?_
  refine CW.seq ?_
  refine CW.region ?_
  refine SL.v (.bool false) ?_
  refine SL.nil ?_
  refine CW.seq ?_
  refine CW.seq ?_
  refine CW.region ?_
  refine SL.v (.map none) ?_
  refine SL.val (v := .int .i64 0) (w' := w) rfl rfl (by kernel_rfl) ?_
  refine SL.v (.map (some d)) ?_
  refine SL.mpLen (i := 0) hs0 rfl rfl rfl rfl (by kernel_rfl) rfl ?_
  refine SL.v (.bool (!(0 == ((Maps.size (macD m) : Nat) : Int)))) ?_
  refine SL.nil ?_
  rcases Bool.eq_false_or_eq_true (0 == ((Maps.size (macD m) : Nat) : Int)) with hb_1 | hb_1
  · try rw [hb_1]
    refine CW.cond_false (by kernel_rfl) ?_
    refine CW.skip ?_
    refine CW.seq ?_
    refine CW.seq ?_
    refine CW.region ?_
    refine SL.v (.map none) ?_
    refine SL.mpRangeNil (k := 3) (el := 9) hs0 rfl rfl rfl rfl (by kernel_rfl) (fun r_2 w_3 hs_4 => ?_)
    have hs_4 : SH U w w_3 [mpH Try.prog 3 9 d k (macD m), inH r_2] := hs_4
    refine SL.nil ?_
    refine CW.block ?_
    refine CW.loopN 1 ?_
    refine CR.more ?_
    refine CW.seq ?_
    refine CW.region ?_
    refine SL.mpNextNil (i := 1) hs_4 rfl rfl rfl (by kernel_rfl) rfl ?_
    refine SL.v (.bool false) ?_
    refine SL.nil ?_
    refine CW.seq ?_
    refine CW.cond_false (by kernel_rfl) ?_
    refine CW.exit ?_
    repeat with_reducible first | refine PThen.exit ?_ | refine PBlock.out rfl ?_
    with_reducible refine PBlock.here ?_
    repeat with_reducible refine PBlock.normal ?_
    refine CW.seq ?_
    refine CW.region ?_
    refine SL.v (.bool true) ?_
    refine SL.nil ?_
    refine CW.ret ?_
    repeat with_reducible first | refine PThen.ret ?_ | refine PBlock.ret ?_
    refine PRet.tmp (t := 4) (v := .bool true) rfl rfl (by kernel_rfl) ?_
    have hs9 := hs_4
    have hz9 := hb_1
    have he9 : l = m := by rw [macD_size] at hz9; have h_ := eq_of_beq hz9; rw [hm0]; exact (List.eq_nil_of_length_eq_zero (by omega)).symm
    rw [decide_eq_true he9]
    exact ⟨_, _, rfl, ⟨rfl, rfl⟩, hs9.pick [0] rfl⟩
  · try rw [hb_1]
    refine CW.cond_true (by kernel_rfl) ?_
    refine CW.seq ?_
    refine CW.region ?_
    refine SL.v (.bool false) ?_
    refine SL.nil ?_
    refine CW.ret ?_
    repeat with_reducible first | refine PThen.ret ?_ | refine PBlock.ret ?_
    refine PRet.tmp (t := 4) (v := .bool false) rfl rfl (by kernel_rfl) ?_
    have hs9 := hs0
    have he9 : ¬ l = m := fun e_ => by have hz9 := hb_1; rw [← e_, hm0] at hz9; simp [macD_size] at hz9
    rw [decide_eq_false he9]
    exact ⟨_, _, rfl, ⟨rfl, rfl⟩, hs9.pick [0] rfl⟩
set_option maxRecDepth 100000 in
theorem smm (g g2 : Nat) (b n : Nat) (d k : Nat) (l m : List Mac) (w : World) (hl : riseL l) (hm : riseL m) : Tr Try.prog 15 #[.pointer (some ⟨g, 0, none⟩), .pointer (some ⟨g2, 0, none⟩)] w [pt g #[.map (some b)] 35, mpH Try.prog 3 9 b n (macD l), pt g2 #[.map (some d)] 35, mpH Try.prog 3 9 d k (macD m)] (fun v Q => v = .bool (decide (l = m)) ∧ Q = [pt g #[.map (some b)] 35, mpH Try.prog 3 9 b n (macD l), pt g2 #[.map (some d)] 35, mpH Try.prog 3 9 d k (macD m)]) := by
  refine Tr.of fun U hs0 => ?_
  refine calls_sx (n := 14) (args := [.pointer (some ⟨g, 0, none⟩), .pointer (some ⟨g2, 0, none⟩)]) Try.func15 rfl rfl rfl ?_
  refine CW.seq ?_
  refine CW.region ?_
  refine SL.v (.bool false) ?_
  refine SL.nil ?_
  refine CW.seq ?_
  have HGR : GrL [fun v _ => v = .pointer (some ⟨g, 0, none⟩), fun v _ => v = .pointer (some ⟨g, 0, none⟩), fun v _ => v = .pointer (some ⟨g, 0, none⟩), fun v _ => v = .map (some b), fun v _ => v = .pointer (some ⟨g2, 0, none⟩), fun v _ => v = .pointer (some ⟨g2, 0, none⟩), fun v _ => v = .pointer (some ⟨g2, 0, none⟩), fun v _ => v = .map (some d)] := ⟨fun _ _ _ _ h => h, ⟨fun _ _ _ _ h => h, ⟨fun _ _ _ _ h => h, ⟨fun _ _ _ _ h => h, ⟨fun _ _ _ _ h => h, ⟨fun _ _ _ _ h => h, ⟨fun _ _ _ _ h => h, ⟨fun _ _ _ _ h => h, trivial⟩⟩⟩⟩⟩⟩⟩⟩
  refine CW.draw 8 (FW [fun v _ => v = .pointer (some ⟨g, 0, none⟩), fun v _ => v = .pointer (some ⟨g, 0, none⟩), fun v _ => v = .pointer (some ⟨g, 0, none⟩), fun v _ => v = .map (some b), fun v _ => v = .pointer (some ⟨g2, 0, none⟩), fun v _ => v = .pointer (some ⟨g2, 0, none⟩), fun v _ => v = .pointer (some ⟨g2, 0, none⟩), fun v _ => v = .map (some d)]) (fun W => Gr w W) (by kernel_rfl) (by kernel_rfl) (by kernel_rfl) (by kernel_rfl) (by kernel_rfl) (Gr.refl _).drew ?_ ?_
  · refine ⟨?_, ⟨?_, ⟨?_, ⟨?_, ⟨?_, ⟨?_, ⟨?_, ⟨?_, trivial⟩⟩⟩⟩⟩⟩⟩⟩
    · intro L ys W hB hF hP K hK
      show OpE _ _ _ W K
      exact OpE.val (.pointer (some ⟨g, 0, none⟩)) W (by kernel_rfl) (hK _ W hB rfl (fun _ _ h => h))
    · intro L ys W hB hF hP K hK
      show OpE _ _ _ W K
      exact OpE.known (j := 0) (v := .pointer (some ⟨g, 0, none⟩)) (hF 0 (hP.1 rfl)) (OpE.val (.pointer (some ⟨g, 0, none⟩)) W (by kernel_rfl) (hK _ W hB rfl (fun _ _ h => h)))
    · intro L ys W hB hF hP K hK
      show OpE _ _ _ W K
      exact OpE.known (j := 1) (v := .pointer (some ⟨g, 0, none⟩)) (hF 1 (hP.1 rfl)) (OpE.val (.pointer (some ⟨g, 0, none⟩)) W (by kernel_rfl) (hK _ W hB rfl (fun _ _ h => h)))
    · intro L ys W hB hF hP K hK
      show OpE _ _ _ W K
      exact OpE.known (j := 2) (v := .pointer (some ⟨g, 0, none⟩)) (hF 2 (hP.1 rfl)) (OpE.load (g := g) (off := 0) (v := .map (some b)) rfl (by kernel_rfl) ((hs0.grow hB).pt_at (i := 0) rfl) (by kernel_rfl) (hK _ W hB rfl (fun _ _ h => h)))
    · intro L ys W hB hF hP K hK
      show OpE _ _ _ W K
      exact OpE.val (.pointer (some ⟨g2, 0, none⟩)) W (by kernel_rfl) (hK _ W hB rfl (fun _ _ h => h))
    · intro L ys W hB hF hP K hK
      show OpE _ _ _ W K
      exact OpE.known (j := 4) (v := .pointer (some ⟨g2, 0, none⟩)) (hF 4 (hP.1 rfl)) (OpE.val (.pointer (some ⟨g2, 0, none⟩)) W (by kernel_rfl) (hK _ W hB rfl (fun _ _ h => h)))
    · intro L ys W hB hF hP K hK
      show OpE _ _ _ W K
      exact OpE.known (j := 5) (v := .pointer (some ⟨g2, 0, none⟩)) (hF 5 (hP.1 rfl)) (OpE.val (.pointer (some ⟨g2, 0, none⟩)) W (by kernel_rfl) (hK _ W hB rfl (fun _ _ h => h)))
    · intro L ys W hB hF hP K hK
      show OpE _ _ _ W K
      exact OpE.known (j := 6) (v := .pointer (some ⟨g2, 0, none⟩)) (hF 6 (hP.1 rfl)) (OpE.load (g := g2) (off := 0) (v := .map (some d)) rfl (by kernel_rfl) ((hs0.grow hB).pt_at (i := 2) rfl) (by kernel_rfl) (hK _ W hB rfl (fun _ _ h => h)))
  · intro ys_4 w_1 hs_2 hF_3
    have hg_5 := hs_2
    have hs_2 : SH U w w_1 [pt g #[.map (some b)] 35, mpH Try.prog 3 9 b n (macD l), pt g2 #[.map (some d)] 35, mpH Try.prog 3 9 d k (macD m)] := hs0.grow hg_5
    refine SL.knownY (j := 3) (v := .map (some b)) (show ys_4 3 = .map (some b) from hF_3 3 (by decide)) (SL.knownY (j := 7) (v := .map (some d)) (show ys_4 7 = .map (some d) from hF_3 7 (by decide)) (?_))
    clear hF_3 HGR
    refine SL.callH (f := 33) (args := #[.map (some b), .map (some d)]) (Pre := [mpH Try.prog 3 9 b n (macD l), mpH Try.prog 3 9 d k (macD m)]) (Rest := [pt g #[.map (some b)] 35, pt g2 #[.map (some d)] 35]) [1, 2] hs_2 rfl rfl (by kernel_rfl) rfl (eq_mm b n d k l m w_1 hl hm) ?_
    rintro v_ Q_ w_6 ⟨rfl, rfl⟩ hs_8
    have hs_8 : SH U w w_6 [mpH Try.prog 3 9 b n (macD l), mpH Try.prog 3 9 d k (macD m), pt g #[.map (some b)] 35, pt g2 #[.map (some d)] 35] := hs_8
    refine SL.v (.bool (decide (l = m))) ?_
    refine SL.nil ?_
    refine CW.ret ?_
    repeat with_reducible first | refine PThen.ret ?_ | refine PBlock.ret ?_
    refine PRet.tmp (t := 4) (v := .bool (decide (l = m))) rfl rfl (by kernel_rfl) ?_
    exact ⟨_, _, rfl, ⟨rfl, rfl⟩, hs_8.pick [2, 0, 1, 0] rfl⟩
set_option maxRecDepth 100000 in
theorem smn (g g2 : Nat) (b n : Nat) (l m : List Mac) (w : World) (hm0 : m = []) : Tr Try.prog 15 #[.pointer (some ⟨g, 0, none⟩), .pointer (some ⟨g2, 0, none⟩)] w [pt g #[.map (some b)] 35, mpH Try.prog 3 9 b n (macD l), pt g2 #[.map none] 35] (fun v Q => v = .bool (decide (l = m)) ∧ Q = [pt g #[.map (some b)] 35, mpH Try.prog 3 9 b n (macD l), pt g2 #[.map none] 35]) := by
  refine Tr.of fun U hs0 => ?_
  refine calls_sx (n := 14) (args := [.pointer (some ⟨g, 0, none⟩), .pointer (some ⟨g2, 0, none⟩)]) Try.func15 rfl rfl rfl ?_
  refine CW.seq ?_
  refine CW.region ?_
  refine SL.v (.bool false) ?_
  refine SL.nil ?_
  refine CW.seq ?_
  have HGR : GrL [fun v _ => v = .pointer (some ⟨g, 0, none⟩), fun v _ => v = .pointer (some ⟨g, 0, none⟩), fun v _ => v = .pointer (some ⟨g, 0, none⟩), fun v _ => v = .map (some b), fun v _ => v = .pointer (some ⟨g2, 0, none⟩), fun v _ => v = .pointer (some ⟨g2, 0, none⟩), fun v _ => v = .pointer (some ⟨g2, 0, none⟩), fun v _ => v = .map none] := ⟨fun _ _ _ _ h => h, ⟨fun _ _ _ _ h => h, ⟨fun _ _ _ _ h => h, ⟨fun _ _ _ _ h => h, ⟨fun _ _ _ _ h => h, ⟨fun _ _ _ _ h => h, ⟨fun _ _ _ _ h => h, ⟨fun _ _ _ _ h => h, trivial⟩⟩⟩⟩⟩⟩⟩⟩
  refine CW.draw 8 (FW [fun v _ => v = .pointer (some ⟨g, 0, none⟩), fun v _ => v = .pointer (some ⟨g, 0, none⟩), fun v _ => v = .pointer (some ⟨g, 0, none⟩), fun v _ => v = .map (some b), fun v _ => v = .pointer (some ⟨g2, 0, none⟩), fun v _ => v = .pointer (some ⟨g2, 0, none⟩), fun v _ => v = .pointer (some ⟨g2, 0, none⟩), fun v _ => v = .map none]) (fun W => Gr w W) (by kernel_rfl) (by kernel_rfl) (by kernel_rfl) (by kernel_rfl) (by kernel_rfl) (Gr.refl _).drew ?_ ?_
  · refine ⟨?_, ⟨?_, ⟨?_, ⟨?_, ⟨?_, ⟨?_, ⟨?_, ⟨?_, trivial⟩⟩⟩⟩⟩⟩⟩⟩
    · intro L ys W hB hF hP K hK
      show OpE _ _ _ W K
      exact OpE.val (.pointer (some ⟨g, 0, none⟩)) W (by kernel_rfl) (hK _ W hB rfl (fun _ _ h => h))
    · intro L ys W hB hF hP K hK
      show OpE _ _ _ W K
      exact OpE.known (j := 0) (v := .pointer (some ⟨g, 0, none⟩)) (hF 0 (hP.1 rfl)) (OpE.val (.pointer (some ⟨g, 0, none⟩)) W (by kernel_rfl) (hK _ W hB rfl (fun _ _ h => h)))
    · intro L ys W hB hF hP K hK
      show OpE _ _ _ W K
      exact OpE.known (j := 1) (v := .pointer (some ⟨g, 0, none⟩)) (hF 1 (hP.1 rfl)) (OpE.val (.pointer (some ⟨g, 0, none⟩)) W (by kernel_rfl) (hK _ W hB rfl (fun _ _ h => h)))
    · intro L ys W hB hF hP K hK
      show OpE _ _ _ W K
      exact OpE.known (j := 2) (v := .pointer (some ⟨g, 0, none⟩)) (hF 2 (hP.1 rfl)) (OpE.load (g := g) (off := 0) (v := .map (some b)) rfl (by kernel_rfl) ((hs0.grow hB).pt_at (i := 0) rfl) (by kernel_rfl) (hK _ W hB rfl (fun _ _ h => h)))
    · intro L ys W hB hF hP K hK
      show OpE _ _ _ W K
      exact OpE.val (.pointer (some ⟨g2, 0, none⟩)) W (by kernel_rfl) (hK _ W hB rfl (fun _ _ h => h))
    · intro L ys W hB hF hP K hK
      show OpE _ _ _ W K
      exact OpE.known (j := 4) (v := .pointer (some ⟨g2, 0, none⟩)) (hF 4 (hP.1 rfl)) (OpE.val (.pointer (some ⟨g2, 0, none⟩)) W (by kernel_rfl) (hK _ W hB rfl (fun _ _ h => h)))
    · intro L ys W hB hF hP K hK
      show OpE _ _ _ W K
      exact OpE.known (j := 5) (v := .pointer (some ⟨g2, 0, none⟩)) (hF 5 (hP.1 rfl)) (OpE.val (.pointer (some ⟨g2, 0, none⟩)) W (by kernel_rfl) (hK _ W hB rfl (fun _ _ h => h)))
    · intro L ys W hB hF hP K hK
      show OpE _ _ _ W K
      exact OpE.known (j := 6) (v := .pointer (some ⟨g2, 0, none⟩)) (hF 6 (hP.1 rfl)) (OpE.load (g := g2) (off := 0) (v := .map none) rfl (by kernel_rfl) ((hs0.grow hB).pt_at (i := 2) rfl) (by kernel_rfl) (hK _ W hB rfl (fun _ _ h => h)))
  · intro ys_4 w_1 hs_2 hF_3
    have hg_5 := hs_2
    have hs_2 : SH U w w_1 [pt g #[.map (some b)] 35, mpH Try.prog 3 9 b n (macD l), pt g2 #[.map none] 35] := hs0.grow hg_5
    refine SL.knownY (j := 3) (v := .map (some b)) (show ys_4 3 = .map (some b) from hF_3 3 (by decide)) (SL.knownY (j := 7) (v := .map none) (show ys_4 7 = .map none from hF_3 7 (by decide)) (?_))
    clear hF_3 HGR
    refine SL.callH (f := 33) (args := #[.map (some b), .map none]) (Pre := [mpH Try.prog 3 9 b n (macD l)]) (Rest := [pt g #[.map (some b)] 35, pt g2 #[.map none] 35]) [1] hs_2 rfl rfl (by kernel_rfl) rfl (eq_mn b n l m w_1 hm0) ?_
    rintro v_ Q_ w_6 ⟨rfl, rfl⟩ hs_8
    have hs_8 : SH U w w_6 [mpH Try.prog 3 9 b n (macD l), pt g #[.map (some b)] 35, pt g2 #[.map none] 35] := hs_8
    refine SL.v (.bool (decide (l = m))) ?_
    refine SL.nil ?_
    refine CW.ret ?_
    repeat with_reducible first | refine PThen.ret ?_ | refine PBlock.ret ?_
    refine PRet.tmp (t := 4) (v := .bool (decide (l = m))) rfl rfl (by kernel_rfl) ?_
    exact ⟨_, _, rfl, ⟨rfl, rfl⟩, hs_8.pick [1, 0, 0] rfl⟩
set_option maxRecDepth 100000 in
theorem snm (g g2 : Nat) (d k : Nat) (l m : List Mac) (w : World) (hm0 : l = []) : Tr Try.prog 15 #[.pointer (some ⟨g, 0, none⟩), .pointer (some ⟨g2, 0, none⟩)] w [pt g #[.map none] 35, pt g2 #[.map (some d)] 35, mpH Try.prog 3 9 d k (macD m)] (fun v Q => v = .bool (decide (l = m)) ∧ Q = [pt g #[.map none] 35, pt g2 #[.map (some d)] 35, mpH Try.prog 3 9 d k (macD m)]) := by
  refine Tr.of fun U hs0 => ?_
  refine calls_sx (n := 14) (args := [.pointer (some ⟨g, 0, none⟩), .pointer (some ⟨g2, 0, none⟩)]) Try.func15 rfl rfl rfl ?_
  refine CW.seq ?_
  refine CW.region ?_
  refine SL.v (.bool false) ?_
  refine SL.nil ?_
  refine CW.seq ?_
  have HGR : GrL [fun v _ => v = .pointer (some ⟨g, 0, none⟩), fun v _ => v = .pointer (some ⟨g, 0, none⟩), fun v _ => v = .pointer (some ⟨g, 0, none⟩), fun v _ => v = .map none, fun v _ => v = .pointer (some ⟨g2, 0, none⟩), fun v _ => v = .pointer (some ⟨g2, 0, none⟩), fun v _ => v = .pointer (some ⟨g2, 0, none⟩), fun v _ => v = .map (some d)] := ⟨fun _ _ _ _ h => h, ⟨fun _ _ _ _ h => h, ⟨fun _ _ _ _ h => h, ⟨fun _ _ _ _ h => h, ⟨fun _ _ _ _ h => h, ⟨fun _ _ _ _ h => h, ⟨fun _ _ _ _ h => h, ⟨fun _ _ _ _ h => h, trivial⟩⟩⟩⟩⟩⟩⟩⟩
  refine CW.draw 8 (FW [fun v _ => v = .pointer (some ⟨g, 0, none⟩), fun v _ => v = .pointer (some ⟨g, 0, none⟩), fun v _ => v = .pointer (some ⟨g, 0, none⟩), fun v _ => v = .map none, fun v _ => v = .pointer (some ⟨g2, 0, none⟩), fun v _ => v = .pointer (some ⟨g2, 0, none⟩), fun v _ => v = .pointer (some ⟨g2, 0, none⟩), fun v _ => v = .map (some d)]) (fun W => Gr w W) (by kernel_rfl) (by kernel_rfl) (by kernel_rfl) (by kernel_rfl) (by kernel_rfl) (Gr.refl _).drew ?_ ?_
  · refine ⟨?_, ⟨?_, ⟨?_, ⟨?_, ⟨?_, ⟨?_, ⟨?_, ⟨?_, trivial⟩⟩⟩⟩⟩⟩⟩⟩
    · intro L ys W hB hF hP K hK
      show OpE _ _ _ W K
      exact OpE.val (.pointer (some ⟨g, 0, none⟩)) W (by kernel_rfl) (hK _ W hB rfl (fun _ _ h => h))
    · intro L ys W hB hF hP K hK
      show OpE _ _ _ W K
      exact OpE.known (j := 0) (v := .pointer (some ⟨g, 0, none⟩)) (hF 0 (hP.1 rfl)) (OpE.val (.pointer (some ⟨g, 0, none⟩)) W (by kernel_rfl) (hK _ W hB rfl (fun _ _ h => h)))
    · intro L ys W hB hF hP K hK
      show OpE _ _ _ W K
      exact OpE.known (j := 1) (v := .pointer (some ⟨g, 0, none⟩)) (hF 1 (hP.1 rfl)) (OpE.val (.pointer (some ⟨g, 0, none⟩)) W (by kernel_rfl) (hK _ W hB rfl (fun _ _ h => h)))
    · intro L ys W hB hF hP K hK
      show OpE _ _ _ W K
      exact OpE.known (j := 2) (v := .pointer (some ⟨g, 0, none⟩)) (hF 2 (hP.1 rfl)) (OpE.load (g := g) (off := 0) (v := .map none) rfl (by kernel_rfl) ((hs0.grow hB).pt_at (i := 0) rfl) (by kernel_rfl) (hK _ W hB rfl (fun _ _ h => h)))
    · intro L ys W hB hF hP K hK
      show OpE _ _ _ W K
      exact OpE.val (.pointer (some ⟨g2, 0, none⟩)) W (by kernel_rfl) (hK _ W hB rfl (fun _ _ h => h))
    · intro L ys W hB hF hP K hK
      show OpE _ _ _ W K
      exact OpE.known (j := 4) (v := .pointer (some ⟨g2, 0, none⟩)) (hF 4 (hP.1 rfl)) (OpE.val (.pointer (some ⟨g2, 0, none⟩)) W (by kernel_rfl) (hK _ W hB rfl (fun _ _ h => h)))
    · intro L ys W hB hF hP K hK
      show OpE _ _ _ W K
      exact OpE.known (j := 5) (v := .pointer (some ⟨g2, 0, none⟩)) (hF 5 (hP.1 rfl)) (OpE.val (.pointer (some ⟨g2, 0, none⟩)) W (by kernel_rfl) (hK _ W hB rfl (fun _ _ h => h)))
    · intro L ys W hB hF hP K hK
      show OpE _ _ _ W K
      exact OpE.known (j := 6) (v := .pointer (some ⟨g2, 0, none⟩)) (hF 6 (hP.1 rfl)) (OpE.load (g := g2) (off := 0) (v := .map (some d)) rfl (by kernel_rfl) ((hs0.grow hB).pt_at (i := 1) rfl) (by kernel_rfl) (hK _ W hB rfl (fun _ _ h => h)))
  · intro ys_4 w_1 hs_2 hF_3
    have hg_5 := hs_2
    have hs_2 : SH U w w_1 [pt g #[.map none] 35, pt g2 #[.map (some d)] 35, mpH Try.prog 3 9 d k (macD m)] := hs0.grow hg_5
    refine SL.knownY (j := 3) (v := .map none) (show ys_4 3 = .map none from hF_3 3 (by decide)) (SL.knownY (j := 7) (v := .map (some d)) (show ys_4 7 = .map (some d) from hF_3 7 (by decide)) (?_))
    clear hF_3 HGR
    refine SL.callH (f := 33) (args := #[.map none, .map (some d)]) (Pre := [mpH Try.prog 3 9 d k (macD m)]) (Rest := [pt g #[.map none] 35, pt g2 #[.map (some d)] 35]) [2] hs_2 rfl rfl (by kernel_rfl) rfl (eq_nm d k l m w_1 hm0) ?_
    rintro v_ Q_ w_6 ⟨rfl, rfl⟩ hs_8
    have hs_8 : SH U w w_6 [mpH Try.prog 3 9 d k (macD m), pt g #[.map none] 35, pt g2 #[.map (some d)] 35] := hs_8
    refine SL.v (.bool (decide (l = m))) ?_
    refine SL.nil ?_
    refine CW.ret ?_
    repeat with_reducible first | refine PThen.ret ?_ | refine PBlock.ret ?_
    refine PRet.tmp (t := 4) (v := .bool (decide (l = m))) rfl rfl (by kernel_rfl) ?_
    exact ⟨_, _, rfl, ⟨rfl, rfl⟩, hs_8.pick [1, 1, 0] rfl⟩
theorem HSt.insPure {A B : HA} {p : Prop} {w : World} {fp : List Nat} (hp : p) (h : HSt [A, B] w fp) : HSt [A, pure_ p, B] w fp := by
  obtain ⟨f1, f2, rfl, h1, h2, h3⟩ := h
  exact ⟨f1, f2, rfl, h1, ⟨[], f2, rfl, ⟨rfl, hp⟩, h2, by simp⟩, h3⟩
theorem HSt.midPure4 {A B C : HA} {p : Prop} {w : World} {fp : List Nat} (h : HSt [A, pure_ p, B, C] w fp) : p ∧ HSt [A, B, C] w fp := by
  obtain ⟨f1, f2, rfl, h1, ⟨f3, f4, rfl, ⟨rfl, hp⟩, h2, _⟩, h3⟩ := h
  exact ⟨hp, f1, f4, rfl, h1, h2, by simpa using h3⟩
theorem HSt.insPure4 {A B C : HA} {p : Prop} {w : World} {fp : List Nat} (hp : p) (h : HSt [A, B, C] w fp) : HSt [A, pure_ p, B, C] w fp := by
  obtain ⟨f1, f2, rfl, h1, h2, h3⟩ := h
  exact ⟨f1, f2, rfl, h1, ⟨[], f2, rfl, ⟨rfl, hp⟩, h2, by simp⟩, h3⟩
theorem HSt.endPure {A B C : HA} {p : Prop} {w : World} {fp : List Nat} (h : HSt [A, B, C, pure_ p] w fp) : p ∧ HSt [A, B, C] w fp := by
  obtain ⟨f1, f2, rfl, h1, ⟨f3, f4, rfl, h2, h4, h5⟩, h3⟩ := h
  obtain ⟨hp, h6⟩ := h4.pureEnd
  exact ⟨hp, f1, f3 ++ f4, rfl, h1, ⟨f3, f4, rfl, h2, h6, h5⟩, h3⟩
theorem same_g (g g2 : Nat) (ob ob2 : Option Nat) (n k : Nat) (l m : List Mac) (w : World) (hl : riseL l) (hm : riseL m) : Tr Try.prog 15 #[.pointer (some ⟨g, 0, none⟩), .pointer (some ⟨g2, 0, none⟩)] w [pt g #[.map ob] 35, oH ob n (macD l), pt g2 #[.map ob2] 35, oH ob2 k (macD m)] (fun v Q => v = .bool (decide (l = m)) ∧ Q = [pt g #[.map ob] 35, oH ob n (macD l), pt g2 #[.map ob2] 35, oH ob2 k (macD m)]) := by
  cases ob with
  | some b =>
    cases ob2 with
    | some d => exact smm g g2 b n d k l m w hl hm
    | none =>
      intro fp hfp
      obtain ⟨hp, h1⟩ := hfp.endPure
      refine (smn g g2 b n l m w (macD_inj hp.1) fp h1).mono fun e w' hx => ?_
      obtain ⟨v, Q, fp', rfl, ⟨rfl, rfl⟩, hq, hu, hf⟩ := hx
      exact ⟨_, _, fp', rfl, ⟨rfl, rfl⟩, hq.addPure hp, hu, hf⟩
  | none =>
    intro fp hfp
    cases ob2 with
    | some d =>
      obtain ⟨hp, h1⟩ := hfp.midPure4
      refine (snm g g2 d k l m w (macD_inj hp.1) fp h1).mono fun e w' hx => ?_
      obtain ⟨v, Q, fp', rfl, ⟨rfl, rfl⟩, hq, hu, hf⟩ := hx
      exact ⟨_, _, fp', rfl, ⟨rfl, rfl⟩, hq.insPure4 hp, hu, hf⟩
    | none =>
      obtain ⟨hp, h1⟩ := hfp.midPure4
      obtain ⟨f1, f2, rfl, q1, ⟨f3, f4, rfl, q2, q3, q4⟩, q5⟩ := h1
      obtain ⟨hp2, q6⟩ : (macD m = .map [] ∧ k = 0) ∧ f4 = [] := by
        obtain ⟨f5, f6, rfl, ⟨rfl, hp2⟩, q7, _⟩ := q3
        have q8 : f6 = [] := q7
        exact ⟨hp2, by simpa using q8⟩
      subst q6
      have e1 : l = [] := macD_inj hp.1
      have e2 : m = [] := macD_inj hp2.1
      refine (same_nil g g2 w (f1 ++ f3) ⟨f1, f3, rfl, q1, ⟨f3, [], by simp, q2, rfl, by simp⟩, by simpa using q5⟩).mono fun e w' hx => ?_
      obtain ⟨v, Q, fp', rfl, ⟨rfl, rfl⟩, hq, hu, hf⟩ := hx
      exact ⟨_, _, fp', rfl, ⟨by rw [decide_eq_true (e1.trans e2.symm)], rfl⟩, (hq.insPure hp).addPure hp2, by simpa using hu, fun x hx => by simpa using hf x hx⟩
set_option maxRecDepth 100000 in
theorem clear_any (g : Nat) (v0 : Value) (w : World) : Tr Try.prog 34 #[.pointer (some ⟨g, 0, none⟩)] w [pt g #[v0] 35] (fun v Q => v = .tuple #[] ∧ Q = [pt g #[.map none] 35]) := by
  refine Tr.of fun U hs0 => ?_
  refine calls_sx (n := 5) (args := [.pointer (some ⟨g, 0, none⟩)]) Try.func34 rfl rfl rfl ?_
  refine CW.region ?_
  refine SL.v (.pointer (some ⟨g, 0, none⟩)) ?_
  refine SL.v (.pointer (some ⟨g, 0, none⟩)) ?_
  refine SL.v (.pointer (some ⟨g, 0, none⟩)) ?_
  refine SL.storeH (i := 0) (g := g) (off := 0) (v := .map none) (L' := [pt g #[.map none] 35]) hs0 rfl rfl rfl (by kernel_rfl) (by kernel_rfl) rfl (by kernel_rfl) (by kernel_rfl) rfl (by kernel_rfl) rfl (fun w_1 hs_2 => ?_)
  refine SL.nil ?_
  refine PRet.none rfl ?_
  exact ⟨_, _, rfl, ⟨rfl, rfl⟩, hs_2⟩
end Go.Proofs.Ytaeppimldbknhaa
