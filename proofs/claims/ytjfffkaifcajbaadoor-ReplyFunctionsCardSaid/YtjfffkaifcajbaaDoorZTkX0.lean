/-
  The document's bytes of any token that can be; both texts' bytes as one word.
  The tables out of a row's listed variables; what a walk is told of a token that came in.
-/
import Derived.Deep.DeepCutAuto
import Derived.Deep.RegionHeld3
import Derived.MakeChecks
import Derived.Test.YtjfffkaifcajbaaDoorRows
import Derived.Test.YtjfffkaifcajbaaDoorZPdI
import Derived.Test.YtjfffkaifcajbaaDoorZTkQ
import Derived.Test.YtjfffkaifcajbaaDoorZTkU
import Derived.Test.YtjfffkaifcajbaaDoorZTkS
import Derived.Test.YtjfffkaifcajbaaDoorZOrd6
namespace Go.Proofs.YtjfffkaifcajbaaDoor
set_option linter.unusedSimpArgs false
set_option linter.unusedVariables false
open Go.RowKit
set_option linter.unusedVariables false

theorem rbytes_can {w : World} {t : Tok} {a1 a2 : Option Addr} {n1 c1 n2 c2 : Nat} (hc : Can t) (h : RdTok w t a1 n1 a2 n2) (hcap : n1 ≤ c1) (hmax : c1 ≤ maxLen) (eight : Bool) :
    Calls Tryd.prog 45 #[.agg #[.int .i64 t.kind, .int .u8 t.code, .int .u8 t.mark, .slice a1 n1 c1, .string (strOf t.inters), .slice a2 n2 c2], .bool eight] w (RBOut w (bytesR t eight)) := by
  have hd := h.dlen
  have hp := h.params
  have hdt := h.data
  cases hc with
  | print c hh => exact rb_one eight (.inl rfl)
  | ctrl c hh => exact rb_one eight (.inr rfl)
  | esc c l hh hl hx =>
    by_cases hl0 : l = []
    · subst hl0
      have e : bytesR ⟨3, c, 0, [], [], []⟩ eight = pairR c eight := by simp [bytesR]
      rw [e]
      exact rb_esc0 (c := c) eight (by omega)
    · have e : bytesR ⟨3, c, 0, [], l, []⟩ eight = [27] ++ (l ++ [c]) := by simp [bytesR, hl0]
      rw [e]
      exact rb_esc eight hl hl0
  | csi c m ps l hh hm hps hl =>
    rcases hm with rfl | hm
    · have e : bytesR ⟨4, c, 0, ps, l, []⟩ eight = pairR (begR 4) eight ++ fmtR ps ++ l ++ [c] := by simp [bytesR]
      rw [e]
      exact rb_csi (k := 0) (m := 0) (d := []) eight hl hp hcap hmax
    · have hm0 : m ≠ 0 := by omega
      have e : bytesR ⟨4, c, m, ps, l, []⟩ eight = pairR (begR 4) eight ++ [m] ++ fmtR ps ++ l ++ [c] := by simp [bytesR, hm0]
      rw [e]
      exact rb_csi_m (k := 0) (d := []) eight hm hl hp hcap hmax
  | dcs c m ps l d hh hm hps hl hdd =>
    have hd4 : n2 ≤ 4096 := by have := hdd.1; simp only at hd; omega
    rcases hm with rfl | hm
    · have e : bytesR ⟨5, c, 0, ps, l, d⟩ eight = pairR (begR 5) eight ++ fmtR ps ++ l ++ [c] ++ d ++ pairR 92 eight := by simp [bytesR]
      rw [e]
      exact rb_dcs (k := 0) (m := 0) eight hl hp hcap hmax hdt hd4
    · have hm0 : m ≠ 0 := by omega
      have e : bytesR ⟨5, c, m, ps, l, d⟩ eight = pairR (begR 5) eight ++ [m] ++ fmtR ps ++ l ++ [c] ++ d ++ pairR 92 eight := by simp [bytesR, hm0]
      rw [e]
      exact rb_dcs_m (k := 0) eight hm hl hp hcap hmax hdt hd4
  | str k d hk hdd =>
    have hd4 : n2 ≤ 4096 := by have := hdd.1; simp only at hd; omega
    have e : bytesR ⟨k, 0, 0, [], [], d⟩ eight = pairR (begR k) eight ++ d ++ pairR 92 eight := by
      have h1 : ¬ k < 3 := by omega
      have h2 : ¬ k = 3 := by omega
      have h3 : ¬ k < 6 := by omega
      have h4 : 4 < k := by omega
      simp [bytesR, h1, h2, h3, h4]
    rw [e]
    exact rb_str (ps := []) (l := []) eight hk hdt hd4

end Go.Proofs.YtjfffkaifcajbaaDoor

namespace Go.Proofs.YtjfffkaifcajbaaDoor
set_option linter.unusedSimpArgs false
set_option linter.unusedVariables false
open Go.RowKit
set_option linter.unusedVariables false

theorem tabT_met {w : World} {rest : List (String × DataW Unit)} (h : laidMet Tryd.prog (("internal/strconv.uint64pow10", Rows.laid_internal_strconv_uint64pow10) :: rest) w) : tabT w :=
  tabIs_head2 (g := 1) (by rfl) (by kernel_rfl) (by kernel_rfl) Tryd.underlying125 (by kernel_rfl) (by kernel_rfl) (by kernel_rfl) h
end Go.Proofs.YtjfffkaifcajbaaDoor
