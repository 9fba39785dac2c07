/-
  How many bytes the texts of a map have, walked (gen_mpd.py).
  A map of texts, copied (gen_mpe.py).
-/
import Derived.Test.YtaeppimldbknhaaZHe
import Derived.Test.YtaeppimldbknhaaZMpC
import Derived.Test.YtaeppimldbknhaaZSq
namespace Go.Proofs.Ytaeppimldbknhaa
set_option linter.unusedSimpArgs false
set_option linter.unusedVariables false
open Go.RowKit Go.Maps
set_option linter.unusedVariables false

set_option maxRecDepth 100000 in
set_option maxHeartbeats 4000000 in
theorem used_tr (b n : Nat) (D : DataW Unit) (w : World) (hOk : MapOk D) (hb : totD D ≤ 1000000) : Tr Try.prog 30 #[.map (some b)] w [mpH Try.prog 3 9 b n D] (fun v Q => v = .int .i64 (totD D) ∧ Q = [mpH Try.prog 3 9 b n D]) := by
  refine Tr.of fun U hs0 => ?_
  refine calls_sx (n := 17) (args := [.map (some b)]) Try.func30 rfl rfl rfl ?_
  refine CW.seq ?_
  refine CW.region ?_
  refine SL.v (.int .i64 0) ?_
  refine SL.nil ?_
  refine CW.seq ?_
  refine CW.region ?_
  refine SL.v (.int .i64 0) ?_
  refine SL.nil ?_
  refine CW.seq ?_
  refine CW.seq ?_
  refine CW.region ?_
  refine SL.v (.map (some b)) ?_
  refine SL.mpRange (L' := []) (i := 0) (b := b) (c := n) (D := D) keyI hs0 rfl rfl rfl rfl (by kernel_rfl) rfl (fun r_1 w_2 hs_3 => ?_)
  have hs_3 : SH U w w_2 [rgH Try.prog 3 9 b r_1 n D (Maps.has D) (Maps.size D)] := hs_3
  refine SL.nil ?_
  refine CW.block ?_
  refine CW.loopI (fun m_ e9 w9 => ∃ (cnt : Nat), ∃ (left : Lit → Bool), ∃ (t : Nat), m_ = cnt ∧ SH U w w9 [rgH Try.prog 3 9 b r_1 n D left cnt] ∧ (leftD D left + t = totD D) ∧ e9 2 = .int .i64 0 ∧ e9 3 = .int .i64 ((t : Nat) : Int) ∧ e9 7 = .pointer (some ⟨r_1, 0, none⟩)) ⟨_, _, _, 0, rfl, hs_3, (by rw [hOk.first]; omega), (by kernel_rfl), (by kernel_rfl), (by kernel_rfl)⟩ ?_
  rintro m_4 e_5 w_6 ⟨cnt, left, t, hm_8, hs_7, ht, hv_9, hv_10, hv_11⟩
  obtain ⟨e_12, rfl⟩ : ∃ e_12, e_5 = put1 (put1 (put1 e_12 2 (.int .i64 0)) 3 (.int .i64 ((t : Nat) : Int))) 7 (.pointer (some ⟨r_1, 0, none⟩)) := ⟨e_5, (put_self hv_11).trans (congrArg (fun z => put1 z 7 (.pointer (some ⟨r_1, 0, none⟩))) ((put_self hv_10).trans (congrArg (fun z => put1 z 3 (.int .i64 ((t : Nat) : Int))) (put_self hv_9))))⟩
  clear hv_9 hv_10 hv_11
  refine CW.seq ?_
  refine CW.region ?_
  refine SL.mpNextS (i := 0) (b := b) (r := r_1) (c := n) (cnt := cnt) (D := D) (left := left) keyI (Try.underlying3) (Try.underlying9) hs_7 rfl rfl rfl (by kernel_rfl) rfl ?_ ?_
  · intro hc_13 hl_14
    refine SL.v (.bool false) ?_
    refine SL.nil ?_
    refine CW.seq ?_
    refine CW.cond_false (by kernel_rfl) ?_
    refine CW.exit ?_
    repeat with_reducible first | refine PThen.exit ?_ | refine PBlock.out rfl ?_
    with_reducible refine PBlock.here ?_
    repeat with_reducible refine PBlock.normal ?_
    refine CW.seq ?_
    refine CW.region ?_
    refine SL.v (.int .i64 ((t : Nat) : Int)) ?_
    refine SL.v (.int .i64 ((t : Nat) : Int)) ?_
    refine SL.nil ?_
    refine CW.ret ?_
    repeat with_reducible first | refine PThen.ret ?_ | refine PBlock.ret ?_
    refine PRet.tmp (t := 2) (v := .int .i64 ((t : Nat) : Int)) rfl rfl (by kernel_rfl) ?_
    have h0_ := hOk.last hl_14
    have ht_ : t = totD D := by omega
    have hs9 := hs_7.mpDone (i := 0) rfl
    exact ⟨_, _, rfl, ⟨by rw [ht_], rfl⟩, hs9⟩
  · intro x_15 s_16 kl_17 w_18 cnt_19 hkey_20 hlk_21 hat_22 hsz_23 hlt_24 hs_25 hen_26
    have hs_25 : SH U w w_18 [rgH Try.prog 3 9 b r_1 n D (fun z => left z && !z.sameKey kl_17) cnt_19] := hs_25
    have hst_ := hOk.step hlk_21 hat_22
    rw [len_str] at hst_
    refine SL.v (.bool true) ?_
    refine SL.nil ?_
    refine CW.seq ?_
    refine CW.cond_true (by kernel_rfl) ?_
    refine CW.skip ?_
    refine CW.block ?_
    refine CW.seq ?_
    refine CW.region ?_
    refine SL.val (v := .tuple #[.int .i64 x_15, .string s_16]) (w' := w_18) rfl rfl (run_entry rfl (by kernel_rfl) hen_26) ?_
    refine SL.v (.string s_16) ?_
    refine SL.v (.string s_16) ?_
    refine SL.nil ?_
    refine CW.region ?_
    refine SL.v (.int .i64 ((t : Nat) : Int)) ?_
    refine SL.v (.string s_16) ?_
    refine SL.val (v := .int .i64 ((s_16.size : Nat) : Int)) (w' := w_18) rfl rfl (run_slen rfl (by kernel_rfl) (by kernel_rfl) rfl) ?_
    refine SL.val (v := .int .i64 ((t + s_16.size : Nat) : Int)) (w' := w_18) rfl rfl (by have hw : IntKind.i64.wrap (((t : Nat) : Int) + ((s_16.size : Nat) : Int)) = ((t + s_16.size : Nat) : Int) := (IntWalk.i64_in _ (by omega)).trans (by omega); exact run_eqv (by kernel_rfl) (congrArg (fun z => Value.int .i64 z) hw)) ?_
    refine SL.v (.int .i64 ((t + s_16.size : Nat) : Int)) ?_
    refine SL.nil ?_
    exact ⟨_, ⟨cnt_19, _, t + s_16.size, rfl, hs_25, (by omega), (by kernel_rfl), (by kernel_rfl), (by kernel_rfl)⟩, by omega⟩
set_option maxRecDepth 100000 in
theorem used_nil (w : World) : Calls Try.prog 30 #[.map none] w fun e w' => e = .returned (.int .i64 0) ∧ Gr w w' := by
  refine calls_sx (n := 17) (args := [.map none]) Try.func30 rfl rfl rfl ?_
  have hs0 := SH.none w
  refine CW.seq ?_
  refine CW.region ?_
  refine SL.v (.int .i64 0) ?_
  refine SL.nil ?_
  refine CW.seq ?_
  refine CW.region ?_
  refine SL.v (.int .i64 0) ?_
  refine SL.nil ?_
  refine CW.seq ?_
  refine CW.seq ?_
  refine CW.region ?_
  refine SL.v (.map none) ?_
  refine SL.mpRangeNil (k := 3) (el := 9) hs0 rfl rfl rfl rfl (by kernel_rfl) (fun r_1 w_2 hs_3 => ?_)
  have hs_3 : SH [] w w_2 [inH r_1] := hs_3
  refine SL.nil ?_
  refine CW.block ?_
  refine CW.loopN 1 ?_
  refine CR.more ?_
  refine CW.seq ?_
  refine CW.region ?_
  refine SL.mpNextNil (i := 0) hs_3 rfl rfl rfl (by kernel_rfl) rfl ?_
  refine SL.v (.bool false) ?_
  refine SL.nil ?_
  refine CW.seq ?_
  refine CW.cond_false (by kernel_rfl) ?_
  refine CW.exit ?_
  repeat with_reducible first | refine PThen.exit ?_ | refine PBlock.out rfl ?_
  with_reducible refine PBlock.here ?_
  repeat with_reducible refine PBlock.normal ?_
  refine CW.seq ?_
  refine CW.region ?_
  refine SL.v (.int .i64 0) ?_
  refine SL.v (.int .i64 0) ?_
  refine SL.nil ?_
  refine CW.ret ?_
  repeat with_reducible first | refine PThen.ret ?_ | refine PBlock.ret ?_
  refine PRet.tmp (t := 2) (v := .int .i64 0) rfl rfl (by kernel_rfl) ?_
  exact ⟨rfl, hs_3.gr⟩
end Go.Proofs.Ytaeppimldbknhaa

namespace Go.Proofs.Ytaeppimldbknhaa
set_option linter.unusedSimpArgs false
set_option linter.unusedVariables false
open Go.RowKit Go.Maps
set_option linter.unusedVariables false

set_option maxRecDepth 100000 in
theorem copy_nil (d : Nat) (w : World) : Calls Try.prog 29 #[.map (some d), .map none] w fun e w' => e = .returned (.tuple #[]) ∧ Gr w w' := by
  refine calls_sx (n := 16) (args := [.map (some d), .map none]) Try.func29 rfl rfl rfl ?_
  have hs0 := SH.none w
  refine CW.seq ?_
  refine CW.region ?_
  refine SL.v (.map none) ?_
  refine SL.mpRangeNil (k := 3) (el := 9) hs0 rfl rfl rfl rfl (by kernel_rfl) (fun r_1 w_2 hs_3 => ?_)
  have hs_3 : SH [] w w_2 [inH r_1] := hs_3
  refine SL.nil ?_
  refine CW.block ?_
  refine CW.loopN 1 ?_
  refine CR.more ?_
  refine CW.seq ?_
  refine CW.region ?_
  refine SL.mpNextNil (i := 0) hs_3 rfl rfl rfl (by kernel_rfl) rfl ?_
  refine SL.v (.bool false) ?_
  refine SL.nil ?_
  refine CW.seq ?_
  refine CW.cond_false (by kernel_rfl) ?_
  refine CW.exit ?_
  repeat with_reducible first | refine PThen.exit ?_ | refine PBlock.out rfl ?_
  with_reducible refine PBlock.here ?_
  repeat with_reducible refine PBlock.normal ?_
  refine PRet.none rfl ?_
  exact ⟨rfl, hs_3.gr⟩
end Go.Proofs.Ytaeppimldbknhaa
