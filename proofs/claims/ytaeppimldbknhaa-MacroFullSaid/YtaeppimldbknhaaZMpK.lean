/-
  Two maps that read alike are equal (gen_mpk.py).
-/
import Derived.Test.YtaeppimldbknhaaZMpJ
namespace Go.Proofs.Ytaeppimldbknhaa
set_option linter.unusedSimpArgs false
set_option linter.unusedVariables false
open Go.RowKit Go.Maps
set_option linter.unusedVariables false

set_option maxRecDepth 100000 in
theorem equal_tr (b n d m : Nat) (D : DataW Unit) (w : World) : Tr Try.prog 33 #[.map (some b), .map (some d)] w [mpH Try.prog 3 9 b n D, mpH Try.prog 3 9 d m D] (fun v Q => v = .bool true ∧ Q = [mpH Try.prog 3 9 b n D, mpH Try.prog 3 9 d m D]) := by
  refine Tr.of fun U hs0 => ?_
  refine calls_sx (n := 34) (args := [.map (some b), .map (some d)]) Try.func33 rfl rfl rfl ?_
  refine CW.seq ?_
  refine CW.region ?_
  refine SL.v (.bool false) ?_
  refine SL.nil ?_
  refine CW.seq ?_
  refine CW.seq ?_
  refine CW.region ?_
  refine SL.v (.map (some b)) ?_
  refine SL.mpLen (i := 0) hs0 rfl rfl rfl rfl (by kernel_rfl) rfl ?_
  refine SL.v (.map (some d)) ?_
  refine SL.mpLen (i := 1) hs0 rfl rfl rfl rfl (by kernel_rfl) rfl ?_
  refine SL.v (.bool (!(((Maps.size D : Nat) : Int) == ((Maps.size D : Nat) : Int)))) ?_
  refine SL.nil ?_
  have hb_1 : (((Maps.size D : Nat) : Int) == ((Maps.size D : Nat) : Int)) = true := (beq_self_eq_true _)
  rw [hb_1]
  refine CW.cond_false (by kernel_rfl) ?_
  refine CW.skip ?_
  refine CW.seq ?_
  refine CW.seq ?_
  refine CW.region ?_
  refine SL.v (.map (some b)) ?_
  refine SL.mpRange (L' := []) (i := 0) (b := b) (c := n) (D := D) keyI hs0 rfl rfl rfl rfl (by kernel_rfl) rfl (fun r_2 w_3 hs_4 => ?_)
  have hs_4 : SH U w w_3 [mpH Try.prog 3 9 d m D, rgH Try.prog 3 9 b r_2 n D (Maps.has D) (Maps.size D)] := hs_4
  refine SL.nil ?_
  refine CW.block ?_
  refine CW.loopI (fun m_ e9 w9 => ∃ (cnt : Nat), ∃ (left : Lit → Bool), m_ = cnt ∧ SH U w w9 [mpH Try.prog 3 9 d m D, rgH Try.prog 3 9 b r_2 n D left cnt] ∧ e9 0 = .map (some b) ∧ e9 1 = .map (some d) ∧ e9 4 = .bool false ∧ e9 15 = .pointer (some ⟨r_2, 0, none⟩)) ⟨_, _, _, rfl, hs_4, (by kernel_rfl), (by kernel_rfl), (by kernel_rfl), (by kernel_rfl)⟩ ?_
  rintro m_5 e_6 w_7 ⟨cnt, left, hm_9, hs_8, hv_10, hv_11, hv_12, hv_13⟩
  obtain ⟨e_14, rfl⟩ : ∃ e_14, e_6 = put1 (put1 (put1 (put1 e_14 0 (.map (some b))) 1 (.map (some d))) 4 (.bool false)) 15 (.pointer (some ⟨r_2, 0, none⟩)) := ⟨e_6, (put_self hv_13).trans (congrArg (fun z => put1 z 15 (.pointer (some ⟨r_2, 0, none⟩))) ((put_self hv_12).trans (congrArg (fun z => put1 z 4 (.bool false)) ((put_self hv_11).trans (congrArg (fun z => put1 z 1 (.map (some d))) (put_self hv_10))))))⟩
  clear hv_10 hv_11 hv_12 hv_13
  refine CW.seq ?_
  refine CW.region ?_
  refine SL.mpNextS (i := 1) (b := b) (r := r_2) (c := n) (cnt := cnt) (D := D) (left := left) keyI (Try.underlying3) (Try.underlying9) hs_8 rfl rfl rfl (by kernel_rfl) rfl ?_ ?_
  · intro hc_15 hl_16
    refine SL.v (.bool false) ?_
    refine SL.nil ?_
    refine CW.seq ?_
    refine CW.cond_false (by kernel_rfl) ?_
    refine CW.exit ?_
    repeat with_reducible first | refine PThen.exit ?_ | refine PBlock.out rfl ?_
    with_reducible refine PBlock.here ?_
    repeat with_reducible refine PBlock.normal ?_
    refine CW.seq ?_
    refine CW.region ?_
    refine SL.v (.bool true) ?_
    refine SL.nil ?_
    refine CW.ret ?_
    repeat with_reducible first | refine PThen.ret ?_ | refine PBlock.ret ?_
    refine PRet.tmp (t := 4) (v := .bool true) rfl rfl (by kernel_rfl) ?_
    have hs9 := hs_8.mpDone (i := 1) rfl
    have hs8 := hs9.pick [1, 0] rfl
    exact ⟨_, _, rfl, ⟨rfl, rfl⟩, hs8⟩
  · intro x_17 s_18 kl_19 w_20 cnt_21 hkey_22 hlk_23 hat_24 hsz_25 hlt_26 hs_27 hen_28
    have hs_27 : SH U w w_20 [mpH Try.prog 3 9 d m D, rgH Try.prog 3 9 b r_2 n D (fun z => left z && !z.sameKey kl_19) cnt_21] := hs_27
    refine SL.v (.bool true) ?_
    refine SL.nil ?_
    refine CW.seq ?_
    refine CW.cond_true (by kernel_rfl) ?_
    refine CW.skip ?_
    refine CW.block ?_
    refine CW.seq ?_
    refine CW.region ?_
    refine SL.val (v := .tuple #[.int .i64 x_17, .string s_18]) (w' := w_20) rfl rfl (run_entry rfl (by kernel_rfl) hen_28) ?_
    refine SL.v (.int .i64 x_17) ?_
    refine SL.v (.string s_18) ?_
    refine SL.v (.int .i64 x_17) ?_
    refine SL.v (.string s_18) ?_
    refine SL.nil ?_
    refine CW.seq ?_
    refine CW.region ?_
    refine SL.v (.map (some d)) ?_
    refine SL.v (.int .i64 x_17) ?_
    refine SL.mpLookOk (i := 0) (b := d) (c := m) (D := D) (kl := kl_19) (z := .string ⟨#[]⟩) (zd := .lit (.string [])) (zp := []) keyI hs_27 rfl rfl rfl rfl rfl (by kernel_rfl) rfl hkey_22 (by kernel_rfl) (str_elem (s := ⟨#[]⟩) (by decide)) (fun v_29 ps_30 hv_31 => ?_)
    obtain rfl := look_same Try.underlying9 hv_31 hat_24
    rw [has_true_of_atKey hat_24]
    refine SL.v (.tuple #[.string s_18, .bool true]) ?_
    refine SL.v (.string s_18) ?_
    refine SL.v (.bool true) ?_
    refine SL.v (.string s_18) ?_
    refine SL.v (.bool true) ?_
    refine SL.nil ?_
    refine CW.seq ?_
    refine CW.region ?_
    refine SL.v (.bool true) ?_
    refine SL.v (.bool false) ?_
    refine SL.v (.bool false) ?_
    refine SL.go ?_
    refine SL.v (.string s_18) ?_
    refine SL.go ?_
    refine SL.v (.string s_18) ?_
    refine SL.go ?_
    refine SL.val (v := .bool false) (w' := w_20) rfl rfl (run_strneB (a := s_18) (b := s_18) (c := true) rfl (by kernel_rfl) (by kernel_rfl) (seqB_self _)) ?_
    refine SL.v (.bool false) ?_
    refine SL.nil ?_
    refine CW.cond_false (by kernel_rfl) ?_
    refine CW.skip ?_
    exact ⟨_, ⟨cnt_21, _, rfl, hs_27, (by kernel_rfl), (by kernel_rfl), (by kernel_rfl), (by kernel_rfl)⟩, by omega⟩
end Go.Proofs.Ytaeppimldbknhaa
