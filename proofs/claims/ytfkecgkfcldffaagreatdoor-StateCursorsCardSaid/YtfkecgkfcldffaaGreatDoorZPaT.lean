/-
  A parser and its tokens in memory; what a step may change.
  A parser, its tokens and what a step leaves of them.
  What appending leaves of a parser and its tokens.
  The parser's small methods, walked.
  The parser's method inter, walked.
  The parser's method text, walked.
  The accumulator's method Byte, walked.
  What a new token leaves of a parser and its tokens.
  The parser's method plain, walked.
-/
import Derived.Deep.RegionLaw
import Derived.Test.YtfkecgkfcldffaaGreatDoorZPw
import Derived.Test.YtfkecgkfcldffaaGreatDoorZSrc
import Derived.Test.YtfkecgkfcldffaaGreatDoorZPaN
namespace Go.Proofs.YtfkecgkfcldffaaGreatDoor
set_option linter.unusedSimpArgs false
set_option linter.unusedVariables false
set_option linter.unusedSectionVars false
open Go.RowKit
/-- The least block that the rows of a parser and its tokens may lie in. -/
class Bs where
  b : Nat
variable [Bs]

/-- .. and what may change from now on is what might have, or new. -/
structure Stp (lv : List Nat) (w : World) (lv' : List Nat) (w' : World) : Prop where
  upd : Upd lv w w'
  new : ∀ k ∈ lv', k ∈ lv ∨ w.heap.size ≤ k

theorem Stp.refl (lv : List Nat) (w : World) : Stp lv w lv w := ⟨.refl _ _, fun _ h => .inl h⟩
theorem Stp.trans {a b c : List Nat} {u v w : World} (h : Stp a u b v) (k : Stp b v c w) : Stp a u c w := by
  refine ⟨⟨k.upd.os.trans h.upd.os, k.upd.tape.trans h.upd.tape, k.upd.output.trans h.upd.output, Nat.le_trans h.upd.size k.upd.size, fun i hi hn => ?_⟩, fun i hi => ?_⟩
  · rw [k.upd.block i (Nat.lt_of_lt_of_le hi h.upd.size) (fun hb => by rcases h.new i hb with h' | h'; exact hn h'; omega)]
    exact h.upd.block i hi hn
  · rcases k.new i hi with h' | h'
    · exact h.new i h'
    · exact .inr (Nat.le_trans h.upd.size h')

end Go.Proofs.YtfkecgkfcldffaaGreatDoor

namespace Go.Proofs.YtfkecgkfcldffaaGreatDoor
set_option linter.unusedSimpArgs false
set_option linter.unusedVariables false
set_option linter.unusedSectionVars false
open Go.RowKit
variable [Bs]

structure PS.ok (s : PS) : Prop where
  phase : 0 ≤ s.phase ∧ s.phase ≤ 4
  kind : 0 ≤ s.kind ∧ s.kind ≤ 9
  code : 0 ≤ s.code ∧ s.code < 256
  mark : 0 ≤ s.mark ∧ s.mark < 256
  inters : s.inters.length ≤ 3
  data : s.data.length ≤ 4096
  done : s.done.length ≤ 30
  now : 0 ≤ s.now ∧ s.now ≤ 65535

theorem blk_lt {w : World} {j : Nat} {b} (h : w.heap[j]? = some b) : j < w.heap.size := (Array.getElem?_eq_some_iff.1 h).1

variable {lv lv' K : List Nat} {w w' : World} {p o : Nat} {s s' : PS} {iv dv av ov : Value} {ts : List Tok} {qs : List (Value × Value)}

theorem Stp.one (hp : p ∈ lv) (hu : Upd [p] w w') : Stp lv w lv w' := ⟨⟨hu.os, hu.tape, hu.output, hu.size, fun k hk hn => hu.block k hk (by simp; rintro rfl; exact hn hp)⟩, fun _ h => .inl h⟩
theorem Stp.gr (hg : Gr w w') : Stp lv w lv w' := ⟨.of_gr hg, fun _ h => .inl h⟩
end Go.Proofs.YtfkecgkfcldffaaGreatDoor

namespace Go.Proofs.YtfkecgkfcldffaaGreatDoor
set_option linter.unusedSimpArgs false
set_option linter.unusedVariables false
set_option linter.unusedSectionVars false
section
open Go.RowKit
variable [Bs]

variable {lv lv' K : List Nat} {w w1 w2 : World} {p o : Nat} {s s' : PS} {iv dv av ov : Value} {ts : List Tok} {qs : List (Value × Value)}

/-- Behind a growing and a store into the parser: the changed blocks. -/
theorem Grew.upd (h : Grew w w1 ov iv p) (_hp : ov.ownBlock ≠ some o) (_ho : o < w.heap.size) (i : Nat) (u : Value) (hm : ∀ k, ov.ownBlock = some k → k ∈ lv) (hol : o ∈ lv) :
    Stp lv w (p :: lv) (w1.setCell ⟨o, i, none⟩ u) ∧ Upd (o :: ov.ownBlock.toList) w (w1.setCell ⟨o, i, none⟩ u) := by
  have hu : Upd (o :: ov.ownBlock.toList) w (w1.setCell ⟨o, i, none⟩ u) := by
    refine ⟨?_, ?_, ?_, ?_, fun k hk hn => ?_⟩
    · rw [← h.grown.os]; simp [World.setCell]
    · rw [← h.grown.tape]; simp [World.setCell]
    · rw [← h.grown.output]; simp [World.setCell]
    · have := h.grown.size; simpa using this
    · simp at hn
      rw [Below.heap_setCell _ _ _ _ (fun e => hn.1 e)]
      exact h.grown.block k hk fun e => hn.2 e.symm
  refine ⟨⟨⟨hu.os, hu.tape, hu.output, hu.size, fun k hk hn => hu.block k hk ?_⟩, ?_⟩, hu⟩
  · simp
    exact ⟨fun e => hn (e ▸ hol), fun e => hn (hm k e)⟩
  · intro k hk
    rcases List.mem_cons.1 hk with rfl | hk
    · rcases h.at_ with e | e
      · exact .inl (hm _ e)
      · exact .inr (by omega)
    · exact .inl hk

end
section
open Go.RowKit
variable [Bs]

variable {lv : List Nat} {w : World} {p o : Nat} {s : PS} {ts : List Tok}

end
section
open Go.RowKit
variable [Bs]

variable {lv : List Nat} {w : World} {p o : Nat} {s : PS} {ts : List Tok}

theorem int_info : (Tryz.prog.info? 3).map (fun i => (i.zero, i.size, i.bytes)) = some (some (.int .i64 0), 1, 8) := by kernel_rfl

end
section
open Go.RowKit
variable [Bs]

variable {lv : List Nat} {w : World} {p o : Nat} {s : PS} {ts : List Tok}

end
section
open Go.RowKit
variable [Bs]

variable {lv : List Nat} {w : World} {p o : Nat} {s : PS} {ts : List Tok}

end
section
open Go.RowKit
variable [Bs]

variable {lv : List Nat} {w w1 : World} {p o : Nat} {s : PS} {iv dv av ov : Value} {ts : List Tok} {qs : List (Value × Value)}

end
section
open Go.RowKit
variable [Bs]

variable {lv : List Nat} {w : World} {p o : Nat} {s : PS} {ts : List Tok}

end
end Go.Proofs.YtfkecgkfcldffaaGreatDoor
