/-
  The law MergeRises, walked (gen_mgp.py).
-/
import Derived.Test.YtaelmkkobjdgbaaZMgO
namespace Go.Proofs.Ytaelmkkobjdgbaa
set_option linter.unusedSimpArgs false
set_option linter.unusedVariables false
open Go.RowKit
set_option linter.unusedVariables false

theorem ItIn.gr {w w' : World} {x : Itm} (h : ItIn w x) (hg : Gr w w') : ItIn w' x := ⟨h.data.gr hg, h.cap, h.caps, h.byte, h.k1, h.k0, h.k1w⟩
theorem NestIn.gr {w w' : World} {a : Option Addr} {Ls : List LE} (h : NestIn w a Ls) (hg : Gr w w') : NestIn w' a Ls := ⟨h.out.gr hg, h.lf.gr hg, fun e he x hx => (h.items e he x hx).gr hg, h.len, h.lens⟩
end Go.Proofs.Ytaelmkkobjdgbaa
