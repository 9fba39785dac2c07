/-
  A token that can't be has no bytes; what Check and Bytes say of any token.
-/
import Derived.Test.YthfipedfoofobaaDoorZTkQ
namespace Go.Proofs.YthfipedfoofobaaDoor
set_option linter.unusedSimpArgs false
set_option linter.unusedVariables false
open Go.RowKit
set_option linter.unusedVariables false

set_option maxRecDepth 100000 in
set_option maxHeartbeats 1000000 in
theorem bytes_no {w : World} {k c m : Int} {s : ByteArray} {a1 a2 : Option Addr} {n1 c1 n2 c2 : Nat} (eight : Bool) (r : Int) (hr : r ≠ 0)
    (hck : ∀ w', Gr w w' → Calls Tryd.prog 32 #[.agg #[.int .i64 k, .int .u8 c, .int .u8 m, .slice a1 n1 c1, .string s, .slice a2 n2 c2]] w' fun e w2 => e = .returned (.int .i64 r) ∧ Gr w' w2) :
    Calls Tryd.prog 17 #[.agg #[.int .i64 k, .int .u8 c, .int .u8 m, .slice a1 n1 c1, .string s, .slice a2 n2 c2], .bool eight] w fun e w' => e = .returned (.tuple #[.slice none 0 0, .int .i64 r]) ∧ Gr w w' := by
  have hb0 := heap_alloc_new w (.cells #[.int .i64 k, .int .u8 c, .int .u8 m, .slice a1 n1 c1, .string s, .slice a2 n2 c2] 53)
  have hw0 := (Gr.refl w).alloc (.cells #[.int .i64 k, .int .u8 c, .int .u8 m, .slice a1 n1 c1, .string s, .slice a2 n2 c2] 53)
  have hrb : (r != 0) = true := by simpa using hr
  go_enter Tryd.func17, Tryd.ntmps17
  go_wp2_with (go_at_call 32; (with_reducible refine (hck _ hw0).mono ?_); rintro e w2 ⟨rfl, hg2⟩; have hw2 := hw0.trans hg2; obtain ⟨t0, t1, t2, t3, t4, t5, tf⟩ := cells6 (hg2.blk hb0))
  go_ret2
  exact ⟨rfl, hw2⟩
theorem bytes_none {w : World} {t : Tok} {q : Value × Value} (hr : TRange t) (h : RTok w t q) (hn : checkR t ≠ 0) (eight : Bool) :
    Calls Tryd.prog 17 #[.agg (tcells t q).toArray, .bool eight] w fun e w' => e = .returned (.tuple #[.slice none 0 0, .int .i64 (checkR t)]) ∧ Gr w w' := by
  have hck := fun w' (hg : Gr w w') => check_any hr (h.gr hg)
  obtain ⟨qp, qd⟩ := q
  obtain ⟨a1, c1, hv1⟩ := h.params.form
  obtain ⟨a2, c2, hv2⟩ := h.data.form
  simp only at hv1 hv2
  subst hv1; subst hv2
  exact bytes_no eight _ hn hck
theorem RTok.rd {w : World} {t : Tok} {q : Value × Value} (h : RTok w t q) (h3 : t.inters.length ≤ 9223372036854775807) : ∃ a1 c1 a2 c2, q = (.slice a1 t.params.length c1, .slice a2 t.data.length c2) ∧ (t.params.length ≤ 9223372036854775807 → t.data.length ≤ 9223372036854775807 → RdTok w t a1 t.params.length a2 t.data.length) := by
  obtain ⟨qp, qd⟩ := q
  obtain ⟨a1, c1, hv1⟩ := h.params.form
  obtain ⟨a2, c2, hv2⟩ := h.data.form
  simp only at hv1 hv2
  subst hv1; subst hv2
  exact ⟨a1, c1, a2, c2, rfl, fun h1 h2 => ⟨(h.params.rdi).1, (h.data.rdi).1, h1, h2, h3⟩⟩
end Go.Proofs.YthfipedfoofobaaDoor
