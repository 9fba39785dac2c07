/-
  Clone of the macros' store (gen_mpj.py).
-/
import Derived.Test.YtaeppimldbknhaaZMpI
namespace Go.Proofs.Ytaeppimldbknhaa
set_option linter.unusedSimpArgs false
set_option linter.unusedVariables false
open Go.RowKit Go.Maps
set_option linter.unusedVariables false

theorem mclone_nil2 (w : World) : Calls Try.prog 32 #[.map none] w fun e w' => e = .returned (.map none) ∧ w = w' := (mclone_nil w).mono fun e w' h => ⟨h.1, h.2.symm⟩
set_option maxRecDepth 100000 in
theorem sclone_map (g : Nat) (b n : Nat) (D : DataW Unit) (w : World) : Tr Try.prog 14 #[.pointer (some ⟨g, 0, none⟩)] w [pt g #[.map (some b)] 35, mpH Try.prog 3 9 b n D] (fun v Q => ∃ g2 b2, v = .pointer (some ⟨g2, 0, none⟩) ∧ Q = [pt g2 #[.map (some b2)] 35, mpH Try.prog 3 9 b2 n D, pt g #[.map (some b)] 35, mpH Try.prog 3 9 b n D]) := by
  refine Tr.of fun U hs0 => ?_
  refine calls_sx (n := 10) (args := [.pointer (some ⟨g, 0, none⟩)]) Try.func14 rfl rfl rfl ?_
  refine CW.seq ?_
  refine CW.region ?_
  refine SL.v (.pointer none) ?_
  refine SL.nil ?_
  refine CW.seq ?_
  refine CW.region ?_
  refine SL.v (.pointer (some ⟨g, 0, none⟩)) ?_
  refine SL.v (.pointer (some ⟨g, 0, none⟩)) ?_
  refine SL.v (.pointer (some ⟨g, 0, none⟩)) ?_
  refine SL.load (g := g) (off := 0) (v := .map (some b)) rfl rfl rfl (by kernel_rfl) (hs0.pt_at (i := 0) rfl) (by kernel_rfl) ?_
  refine SL.callH (f := 32) (args := #[.map (some b)]) (Pre := [mpH Try.prog 3 9 b n D]) (Rest := [pt g #[.map (some b)] 35]) [1] hs0 rfl rfl (by kernel_rfl) rfl (clone_tr b n D w) ?_
  rintro v_ Q_ w_2 ⟨b_1, rfl, rfl⟩ hs_4
  have hs_4 : SH U w w_2 [mpH Try.prog 3 9 b_1 n D, mpH Try.prog 3 9 b n D, pt g #[.map (some b)] 35] := hs_4
  refine SL.v (.agg #[.map (some b_1)]) ?_
  refine SL.newH (mk := fun g => .pointer (some ⟨g, 0, none⟩)) (C := #[.map (some b_1)]) (T := 35) hs_4 rfl rfl (by kernel_rfl) (fun g_5 w_6 hs_7 => ?_)
  have hs_7 : SH U w w_6 [mpH Try.prog 3 9 b_1 n D, mpH Try.prog 3 9 b n D, pt g #[.map (some b)] 35, pt g_5 #[.map (some b_1)] 35] := hs_7
  refine SL.v (.pointer (some ⟨g_5, 0, none⟩)) ?_
  refine SL.nil ?_
  refine CW.ret ?_
  repeat with_reducible first | refine PThen.ret ?_ | refine PBlock.ret ?_
  refine PRet.tmp (t := 2) (v := .pointer (some ⟨g_5, 0, none⟩)) rfl rfl (by kernel_rfl) ?_
  exact ⟨_, _, rfl, ⟨_, _, rfl, rfl⟩, hs_7.pick [3, 0, 1, 0] rfl⟩
set_option maxRecDepth 100000 in
theorem sclone_nil (g : Nat) (w : World) : Tr Try.prog 14 #[.pointer (some ⟨g, 0, none⟩)] w [pt g #[.map none] 35] (fun v Q => ∃ g2, v = .pointer (some ⟨g2, 0, none⟩) ∧ Q = [pt g2 #[.map none] 35, pt g #[.map none] 35]) := by
  refine Tr.of fun U hs0 => ?_
  refine calls_sx (n := 10) (args := [.pointer (some ⟨g, 0, none⟩)]) Try.func14 rfl rfl rfl ?_
  refine CW.seq ?_
  refine CW.region ?_
  refine SL.v (.pointer none) ?_
  refine SL.nil ?_
  refine CW.seq ?_
  refine CW.region ?_
  refine SL.v (.pointer (some ⟨g, 0, none⟩)) ?_
  refine SL.v (.pointer (some ⟨g, 0, none⟩)) ?_
  refine SL.v (.pointer (some ⟨g, 0, none⟩)) ?_
  refine SL.load (g := g) (off := 0) (v := .map none) rfl rfl rfl (by kernel_rfl) (hs0.pt_at (i := 0) rfl) (by kernel_rfl) ?_
  refine SL.call (f := 32) (args := #[.map none]) (w1 := w) rfl rfl (by kernel_rfl) (mclone_nil2 w) ?_
  rintro x w_1 ⟨rfl, rfl⟩
  refine ⟨.map none, rfl, ?_⟩
  refine SL.v (.agg #[.map none]) ?_
  refine SL.newH (mk := fun g => .pointer (some ⟨g, 0, none⟩)) (C := #[.map none]) (T := 35) hs0 rfl rfl (by kernel_rfl) (fun g_4 w_5 hs_6 => ?_)
  have hs_6 : SH U w w_5 [pt g #[.map none] 35, pt g_4 #[.map none] 35] := hs_6
  refine SL.v (.pointer (some ⟨g_4, 0, none⟩)) ?_
  refine SL.nil ?_
  refine CW.ret ?_
  repeat with_reducible first | refine PThen.ret ?_ | refine PBlock.ret ?_
  refine PRet.tmp (t := 2) (v := .pointer (some ⟨g_4, 0, none⟩)) rfl rfl (by kernel_rfl) ?_
  exact ⟨_, _, rfl, ⟨_, rfl, rfl⟩, hs_6.pick [1, 0] rfl⟩
end Go.Proofs.Ytaeppimldbknhaa
