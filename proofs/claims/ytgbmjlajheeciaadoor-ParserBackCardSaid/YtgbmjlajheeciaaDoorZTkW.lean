/-
  Law 11's fixed fact; the law TokenChecks.
-/
import Derived.Deep.DeepCutAuto
import Derived.Test.YtgbmjlajheeciaaDoorZOrd5
import Derived.Test.YtgbmjlajheeciaaDoorZTkV
namespace Go.Proofs.YtgbmjlajheeciaaDoor
set_option linter.unusedSimpArgs false
set_option linter.unusedVariables false
open Go.RowKit
set_option linter.unusedVariables false

theorem RdTok.of_r {w : World} {t : Tok} {pa da : Option Addr} {pc dc n1 n2 : Nat} (h : RTok w t (.slice pa n1 pc, .slice da n2 dc)) (h1 : t.params.length = n1) (h2 : t.data.length = n2) (hs : n1 ≤ 9223372036854775807 ∧ n2 ≤ 9223372036854775807 ∧ t.inters.length ≤ 9223372036854775807) : RdTok w t pa n1 da n2 := by
  subst h1; subst h2
  exact ⟨(h.params.rdi).1, (h.data.rdi).1, hs⟩
/-! facts -/
/-! end -/
/-- What is known of a token that came in, and of the program's own one. -/
structure TokKit (w : World) (T : Tok) (k c m : Int) (s : ByteArray) (a1 a2 : Option Addr) (n1 c1 n2 c2 : Nat) (r : Int) : Prop where
  own : ∀ W, Gr w W → Calls Tryd.prog 9 #[.agg #[.int .i64 k, .int .u8 c, .int .u8 m, .slice a1 n1 c1, .string s, .slice a2 n2 c2]] W fun e w' => ∃ pa pc da dc, e = .returned (.agg #[.int .i64 k, .int .u8 c, .int .u8 m, .slice pa n1 pc, .string s, .slice da n2 dc]) ∧ OTok W.heap.size w' T (.slice pa n1 pc, .slice da n2 dc) ∧ Gr W w'
  rcheck : ∀ W, Gr w W → Calls Tryd.prog 11 #[.agg #[.int .i64 k, .int .u8 c, .int .u8 m, .slice a1 n1 c1, .string s, .slice a2 n2 c2]] W fun e w' => e = .returned (.int .i64 r) ∧ Gr W w'
  rbytes : r = 0 → ∀ W, Gr w W → ∀ eight, Calls Tryd.prog 15 #[.agg #[.int .i64 k, .int .u8 c, .int .u8 m, .slice a1 n1 c1, .string s, .slice a2 n2 c2], .bool eight] W (RBOut W (bytesR T eight))
  rid : ∀ W, Calls Tryd.prog 17 #[.agg #[.int .i64 k, .int .u8 c, .int .u8 m, .slice a1 n1 c1, .string s, .slice a2 n2 c2]] W (IdOut W (idR T.kind T.code T.mark T.inters))
  check : ∀ W pa pc da dc, RTok W T (.slice pa n1 pc, .slice da n2 dc) → Calls Tryd.prog 10 #[.agg #[.int .i64 k, .int .u8 c, .int .u8 m, .slice pa n1 pc, .string s, .slice da n2 dc]] W fun e w' => e = .returned (.int .i64 r) ∧ Gr W w'
  bytes : ∀ W pa pc da dc, RTok W T (.slice pa n1 pc, .slice da n2 dc) → Gr w W → ∀ eight, Calls Tryd.prog 14 #[.agg #[.int .i64 k, .int .u8 c, .int .u8 m, .slice pa n1 pc, .string s, .slice da n2 dc], .bool eight] W fun e w' => ∃ va n vc, e = .returned (.tuple #[.slice va n vc, .int .i64 r]) ∧ HasRow w' 5 (.slice va n vc) n (bcells (if r = 0 then bytesR T eight else [])) ∧ Gr W w'
  told : ∀ W pa pc da dc, Calls Tryd.prog 13 #[.agg #[.int .i64 k, .int .u8 c, .int .u8 m, .slice pa n1 pc, .string s, .slice da n2 dc]] W fun e w' => e = .returned (.agg #[.int .i64 k, .int .u8 c, .int .u8 m, .slice pa n1 pc, .string s, .slice da n2 dc]) ∧ Gr W w'
  same : ∀ W pa pc da dc, RTok W T (.slice pa n1 pc, .slice da n2 dc) → Gr w W → Calls Tryd.prog 12 #[.agg #[.int .i64 k, .int .u8 c, .int .u8 m, .slice pa n1 pc, .string s, .slice da n2 dc], .agg #[.int .i64 k, .int .u8 c, .int .u8 m, .slice a1 n1 c1, .string s, .slice a2 n2 c2]] W fun e w' => e = .returned (.bool true) ∧ Gr W w'
  id : ∀ W pa pc da dc, Calls Tryd.prog 16 #[.agg #[.int .i64 k, .int .u8 c, .int .u8 m, .slice pa n1 pc, .string s, .slice da n2 dc]] W (IdOut W (idR T.kind T.code T.mark T.inters))
  len1 : T.params.length = n1
  len2 : T.data.length = n2
  small : n1 ≤ 9223372036854775807 ∧ n2 ≤ 9223372036854775807 ∧ T.inters.length ≤ 9223372036854775807
  here : RdTok w T a1 n1 a2 n2
  range : TRange T
  parts : T.kind = k ∧ T.code = c ∧ T.mark = m ∧ strOf T.inters = s ∧ r = checkR T
set_option maxRecDepth 100000 in
theorem tokKit {w : World} {T : Tok} {a1 a2 : Option Addr} {n1 c1 n2 c2 : Nat} (hr : TRange T) (h : RdTok w T a1 n1 a2 n2) (hcap : n1 ≤ c1) (hmax : c1 ≤ maxLen) (b1 : n1 * 8 ≤ 140737488355328) (b2 : n2 ≤ 140737488355328) (b3 : T.inters.length ≤ 140737488351232) (hT : tabT w) :
    TokKit w T T.kind T.code T.mark (strOf T.inters) a1 a2 n1 c1 n2 c2 (checkR T) where
  own W hg := by
    refine (own_walk (k := T.kind) (c := T.code) (m := T.mark) (c1 := c1) (c2 := c2) (l := T.inters) (h.params.gr hg) (h.data.gr hg) b1 b2).mono ?_
    rintro e w' ⟨⟨qp, qd⟩, rfl, hO, hg2⟩
    have hpl : T.params.length = n1 := h.plen
    have hdl : T.data.length = n2 := h.dlen
    obtain ⟨pa, pc, e1⟩ := row_form hO.params
    obtain ⟨da, dc, e2⟩ := row_form hO.data
    simp only at e1 e2
    rw [hpl] at e1
    rw [hdl] at e2
    subst e1; subst e2
    exact ⟨pa, pc, da, dc, rfl, hO, hg2⟩
  rcheck W hg := rcheck_any (c1 := c1) (c2 := c2) hr (h.gr hg)
  rbytes h0 W hg eight := rbytes_can (c2 := c2) (check_zero hr h0) (h.gr hg) hcap hmax eight
  rid W := rid_any (w := W) (k := T.kind) (c := T.code) (m := T.mark) (l := T.inters) (a1 := a1) (n1 := n1) (c1 := c1) (a2 := a2) (n2 := n2) (c2 := c2) b3
  check W pa pc da dc hq := by have h1 := check_any hr hq; simp only [tcells] at h1; exact h1
  bytes W pa pc da dc hq hg eight := bytes_any hr hq (hT.gr hg) eight
  told W pa pc da dc := told_any T pa da n1 pc n2 dc W
  same W pa pc da dc hq hg := by
    have h1 := rsame_any (c1 := pc) (c2 := dc) (d1 := c1) (d2 := c2) hr hr (RdTok.of_r hq h.plen h.dlen h.small) (h.gr hg)
    rw [(sameT_iff T T).2 rfl] at h1
    exact h1
  id W pa pc da dc := id_any (w := W) (k := T.kind) (c := T.code) (m := T.mark) (l := T.inters) (a1 := pa) (n1 := n1) (c1 := pc) (a2 := da) (n2 := n2) (c2 := dc) b3 hr.inters
  len1 := h.plen
  len2 := h.dlen
  small := h.small
  here := h
  range := hr
  parts := ⟨rfl, rfl, rfl, rfl, rfl⟩

end Go.Proofs.YtgbmjlajheeciaaDoor
