/-
  The document's bytes of any token that can be; both texts' bytes as one word.
-/
import Derived.Test.YtgbmjlajheeciaaDoorZTkU
import Derived.Test.YtgbmjlajheeciaaDoorZTkS
import Derived.Test.YtgbmjlajheeciaaDoorZTkO
namespace Go.Proofs.YtgbmjlajheeciaaDoor
set_option linter.unusedSimpArgs false
set_option linter.unusedVariables false
open Go.RowKit
set_option linter.unusedVariables false

theorem rbytes_can {w : World} {t : Tok} {a1 a2 : Option Addr} {n1 c1 n2 c2 : Nat} (hc : Can t) (h : RdTok w t a1 n1 a2 n2) (hcap : n1 ≤ c1) (hmax : c1 ≤ maxLen) (eight : Bool) :
    Calls Tryd.prog 15 #[.agg #[.int .i64 t.kind, .int .u8 t.code, .int .u8 t.mark, .slice a1 n1 c1, .string (strOf t.inters), .slice a2 n2 c2], .bool eight] w (RBOut w (bytesR t eight)) := by
  have hd := h.dlen
  have hp := h.params
  have hdt := h.data
  cases hc with
  | print c hh => exact rb_one eight (.inl rfl)
  | ctrl c hh => exact rb_one eight (.inr rfl)
  | esc c l hh hl hx =>
    by_cases hl0 : l = []
    · subst hl0
      have e : bytesR ⟨3, c, 0, [], [], []⟩ eight = pairR c eight := by simp [bytesR]
      rw [e]
      exact rb_esc0 (c := c) eight (by omega)
    · have e : bytesR ⟨3, c, 0, [], l, []⟩ eight = [27] ++ (l ++ [c]) := by simp [bytesR, hl0]
      rw [e]
      exact rb_esc eight hl hl0
  | csi c m ps l hh hm hps hl =>
    rcases hm with rfl | hm
    · have e : bytesR ⟨4, c, 0, ps, l, []⟩ eight = pairR (begR 4) eight ++ fmtR ps ++ l ++ [c] := by simp [bytesR]
      rw [e]
      exact rb_csi (k := 0) (m := 0) (d := []) eight hl hp hcap hmax
    · have hm0 : m ≠ 0 := by omega
      have e : bytesR ⟨4, c, m, ps, l, []⟩ eight = pairR (begR 4) eight ++ [m] ++ fmtR ps ++ l ++ [c] := by simp [bytesR, hm0]
      rw [e]
      exact rb_csi_m (k := 0) (d := []) eight hm hl hp hcap hmax
  | dcs c m ps l d hh hm hps hl hdd =>
    have hd4 : n2 ≤ 4096 := by have := hdd.1; simp only at hd; omega
    rcases hm with rfl | hm
    · have e : bytesR ⟨5, c, 0, ps, l, d⟩ eight = pairR (begR 5) eight ++ fmtR ps ++ l ++ [c] ++ d ++ pairR 92 eight := by simp [bytesR]
      rw [e]
      exact rb_dcs (k := 0) (m := 0) eight hl hp hcap hmax hdt hd4
    · have hm0 : m ≠ 0 := by omega
      have e : bytesR ⟨5, c, m, ps, l, d⟩ eight = pairR (begR 5) eight ++ [m] ++ fmtR ps ++ l ++ [c] ++ d ++ pairR 92 eight := by simp [bytesR, hm0]
      rw [e]
      exact rb_dcs_m (k := 0) eight hm hl hp hcap hmax hdt hd4
  | str k d hk hdd =>
    have hd4 : n2 ≤ 4096 := by have := hdd.1; simp only at hd; omega
    have e : bytesR ⟨k, 0, 0, [], [], d⟩ eight = pairR (begR k) eight ++ d ++ pairR 92 eight := by
      have h1 : ¬ k < 3 := by omega
      have h2 : ¬ k = 3 := by omega
      have h3 : ¬ k < 6 := by omega
      have h4 : 4 < k := by omega
      simp [bytesR, h1, h2, h3, h4]
    rw [e]
    exact rb_str (ps := []) (l := []) eight hk hdt hd4

/-- What Bytes gives of any token. -/
def BytesAny (w : World) (t : Tok) (eight : Bool) (e : Ending) (w' : World) : Prop := ∃ va n vc, e = .returned (.tuple #[.slice va n vc, .int .i64 (checkR t)]) ∧ HasRow w' 5 (.slice va n vc) n (bcells (if checkR t = 0 then bytesR t eight else [])) ∧ Gr w w'
theorem bytes_any {w : World} {t : Tok} {q : Value × Value} (hr : TRange t) (h : RTok w t q) (hT : tabT w) (eight : Bool) :
    Calls Tryd.prog 14 #[.agg (tcells t q).toArray, .bool eight] w (BytesAny w t eight) := by
  by_cases h0 : checkR t = 0
  · refine (bytes_can (check_zero hr h0) h hT eight).mono ?_
    rintro e w' ⟨v, rfl, ⟨w0, hg0, hb⟩, hg⟩
    obtain ⟨va, vc, rfl⟩ := hb.form
    refine ⟨va, _, vc, by rw [h0], ?_, hg⟩
    rw [if_pos h0]
    exact HasRow.of_own hb
  · refine (bytes_none hr h h0 eight).mono ?_
    rintro e w' ⟨rfl, hg⟩
    refine ⟨none, 0, 0, rfl, ?_, hg⟩
    rw [if_neg h0]
    exact HasRow.nil _ _
end Go.Proofs.YtgbmjlajheeciaaDoor
