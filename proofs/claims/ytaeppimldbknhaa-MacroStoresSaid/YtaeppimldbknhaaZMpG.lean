/-
  Space of the macros' store (gen_mpg.py).
-/
import Derived.Test.YtaeppimldbknhaaZMpF
namespace Go.Proofs.Ytaeppimldbknhaa
set_option linter.unusedSimpArgs false
set_option linter.unusedVariables false
open Go.RowKit Go.Maps
set_option linter.unusedVariables false

set_option maxRecDepth 100000 in
theorem space_map (g : Nat) (b n : Nat) (D : DataW Unit) (w : World) (hOk : MapOk D) (hb : totD D ≤ 6144) : Tr Try.prog 13 #[.pointer (some ⟨g, 0, none⟩)] w [pt g #[.map (some b)] 35, mpH Try.prog 3 9 b n D] (fun v Q => v = .int .i64 (6144 - ((totD D : Nat) : Int)) ∧ Q = [pt g #[.map (some b)] 35, mpH Try.prog 3 9 b n D]) := by
  refine Tr.of fun U hs0 => ?_
  refine calls_sx (n := 9) (args := [.pointer (some ⟨g, 0, none⟩)]) Try.func13 rfl rfl rfl ?_
  refine CW.seq ?_
  refine CW.region ?_
  refine SL.v (.int .i64 0) ?_
  refine SL.nil ?_
  refine CW.seq ?_
  refine CW.region ?_
  refine SL.v (.pointer (some ⟨g, 0, none⟩)) ?_
  refine SL.v (.pointer (some ⟨g, 0, none⟩)) ?_
  refine SL.v (.pointer (some ⟨g, 0, none⟩)) ?_
  refine SL.load (g := g) (off := 0) (v := .map (some b)) rfl rfl rfl (by kernel_rfl) (hs0.pt_at (i := 0) rfl) (by kernel_rfl) ?_
  refine SL.callH (f := 30) (args := #[.map (some b)]) (Pre := [mpH Try.prog 3 9 b n D]) (Rest := [pt g #[.map (some b)] 35]) [1] hs0 rfl rfl (by kernel_rfl) rfl (used_tr b n D w hOk (by omega)) ?_
  rintro v_ Q_ w_1 ⟨rfl, rfl⟩ hs_3
  have hs_3 : SH U w w_1 [mpH Try.prog 3 9 b n D, pt g #[.map (some b)] 35] := hs_3
  refine SL.val (v := .int .i64 (6144 - ((totD D : Nat) : Int))) (w' := w_1) rfl rfl (by have hw : IntKind.i64.wrap (6144 - ((totD D : Nat) : Int)) = 6144 - ((totD D : Nat) : Int) := IntWalk.i64_in _ (by omega); exact run_eqv (by kernel_rfl) (congrArg (fun z => Value.int .i64 z) hw)) ?_
  refine SL.v (.int .i64 (6144 - ((totD D : Nat) : Int))) ?_
  refine SL.nil ?_
  refine CW.ret ?_
  repeat with_reducible first | refine PThen.ret ?_ | refine PBlock.ret ?_
  refine PRet.tmp (t := 2) (v := .int .i64 (6144 - ((totD D : Nat) : Int))) rfl rfl (by kernel_rfl) ?_
  exact ⟨_, _, rfl, ⟨rfl, rfl⟩, hs_3.pick [1, 0] rfl⟩
set_option maxRecDepth 100000 in
theorem space_nil (g : Nat) (w : World) : Tr Try.prog 13 #[.pointer (some ⟨g, 0, none⟩)] w [pt g #[.map none] 35] (fun v Q => v = .int .i64 (6144 - 0) ∧ Q = [pt g #[.map none] 35]) := by
  refine Tr.of fun U hs0 => ?_
  refine calls_sx (n := 9) (args := [.pointer (some ⟨g, 0, none⟩)]) Try.func13 rfl rfl rfl ?_
  refine CW.seq ?_
  refine CW.region ?_
  refine SL.v (.int .i64 0) ?_
  refine SL.nil ?_
  refine CW.seq ?_
  refine CW.region ?_
  refine SL.v (.pointer (some ⟨g, 0, none⟩)) ?_
  refine SL.v (.pointer (some ⟨g, 0, none⟩)) ?_
  refine SL.v (.pointer (some ⟨g, 0, none⟩)) ?_
  refine SL.load (g := g) (off := 0) (v := .map none) rfl rfl rfl (by kernel_rfl) (hs0.pt_at (i := 0) rfl) (by kernel_rfl) ?_
  refine SL.call (f := 30) (args := #[.map none]) (w1 := w) rfl rfl (by kernel_rfl) (used_nil w) ?_
  rintro x w_1 ⟨rfl, hc_2⟩
  refine ⟨.int .i64 0, rfl, ?_⟩
  have hs_3 := hs0.grow hc_2
  refine SL.v (.int .i64 6144) ?_
  refine SL.v (.int .i64 6144) ?_
  refine SL.nil ?_
  refine CW.ret ?_
  repeat with_reducible first | refine PThen.ret ?_ | refine PBlock.ret ?_
  refine PRet.tmp (t := 2) (v := .int .i64 6144) rfl rfl (by kernel_rfl) ?_
  exact ⟨_, _, rfl, ⟨rfl, rfl⟩, hs_3.pick [0] rfl⟩
end Go.Proofs.Ytaeppimldbknhaa
