/-
  Define of the macros' store, for plain texts (gen_mpf.py).
-/
import Derived.Test.YtaeppimldbknhaaShelf
import Derived.Test.YtaeppimldbknhaaZMpE
namespace Go.Proofs.Ytaeppimldbknhaa
set_option linter.unusedSimpArgs false
set_option linter.unusedVariables false
open Go.RowKit Go.Maps
set_option linter.unusedVariables false

theorem sclone_any (s : ByteArray) (w : World) (hs : s.size ≤ 1000000) : Calls Try.prog 49 #[.string s] w fun e w' => e = .returned (.string s) ∧ Gr w w' :=
  (Try.stringslite_Clone s w (by omega)).mono fun e w' h => ⟨h.1, h.2⟩
set_option maxRecDepth 100000 in
theorem clone_s (s : ByteArray) (w : World) (hs : s.size ≤ 1000000) : Calls Try.prog 31 #[.string s] w fun e w' => e = .returned (.string s) ∧ Gr w w' := by
  refine calls_sx (n := 5) (args := [.string s]) Try.func31 rfl rfl rfl ?_
  have hs0 := SH.none w
  refine CW.seq ?_
  refine CW.region ?_
  refine SL.v (.string ⟨#[]⟩) ?_
  refine SL.nil ?_
  refine CW.seq ?_
  refine CW.region ?_
  refine SL.v (.string s) ?_
  refine SL.call (f := 49) (args := #[.string s]) (w1 := w) rfl rfl (by kernel_rfl) (sclone_any s w hs) ?_
  rintro x w_1 ⟨rfl, hc_2⟩
  refine ⟨.string s, rfl, ?_⟩
  have hs_3 := hs0.grow hc_2
  refine SL.v (.string s) ?_
  refine SL.nil ?_
  refine CW.ret ?_
  repeat with_reducible first | refine PThen.ret ?_ | refine PBlock.ret ?_
  refine PRet.tmp (t := 2) (v := .string s) rfl rfl (by kernel_rfl) ?_
  exact ⟨rfl, hs_3.gr⟩
end Go.Proofs.Ytaeppimldbknhaa
