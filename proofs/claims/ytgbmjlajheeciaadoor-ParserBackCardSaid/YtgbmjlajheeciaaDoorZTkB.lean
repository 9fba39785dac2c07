/-
  Bytes of a token, the small parts: an escape and a byte, in the program's text and in the document's.
-/
import Derived.Test.YtgbmjlajheeciaaDoorZTkA
import Derived.Test.YtgbmjlajheeciaaDoorZSrcN
import Derived.Test.YtgbmjlajheeciaaDoorZPdT
namespace Go.Proofs.YtgbmjlajheeciaaDoor
set_option linter.unusedSimpArgs false
set_option linter.unusedVariables false
open Go.RowKit

/-- A row of bytes of the call's own, from w0 on. -/
def BRow (w0 w : World) (v : Value) (l : List Int) : Prop := w.ownsRow w0.heap.size 5 1 v l.length (bcells l)
/-- What a function that adds bytes gives back. -/
def BOut (w0 : World) (l : List Int) (e : Ending) (w' : World) : Prop := ∃ v, e = .returned v ∧ BRow w0 w' v l ∧ Gr w0 w'
theorem u8i : (Tryd.prog.info? 5).map (fun i => (i.zero, i.size, i.bytes)) = some (some (.int .u8 0), 1, 1) := by kernel_rfl
theorem bytesT : Tryd.prog.underlying 23 = some (.slice 5) := Tryd.underlying23
theorem BRow.nil (w0 w : World) : BRow w0 w (.slice none 0 0) [] := World.ownsRow_nil _ _ _ _
theorem BRow.gr {w0 w w' : World} {v : Value} {l : List Int} (h : BRow w0 w v l) (hg : Gr w w') : BRow w0 w' v l := ownsRow_gr h hg
theorem BRow.form {w0 w : World} {v : Value} {l : List Int} (h : BRow w0 w v l) : ∃ a c, v = .slice a l.length c := row_form h
theorem BRow.app {w0 w : World} {va : Option Addr} {n m cap : Nat} {l l2 : List Int} (h : w.ownsRow w0.heap.size 5 1 (.slice va (n + m) cap) (n + m) (bcells l ++ bcells l2)) (hn : l.length = n) (hm : l2.length = m) : BRow w0 w (.slice va (n + m) cap) (l ++ l2) := by
  unfold BRow
  rw [show (l ++ l2).length = n + m by simp [hn, hm], show bcells (l ++ l2) = bcells l ++ bcells l2 by simp [bcells]]
  exact h

set_option maxHeartbeats 1000000 in
theorem pair_walk {w0 w : World} {v : Value} {l : List Int} {c : Int} (eight : Bool) (hr : BRow w0 w v l) (hg : Gr w0 w) (hl : l.length ≤ 100000) (hc : 0 ≤ c ∧ c < 256) :
    Calls Tryd.prog 33 #[v, .int .u8 c, .bool eight] w (BOut w0 (l ++ pairR c eight)) := by
  obtain ⟨a, cp, rfl⟩ := hr.form
  obtain ⟨n, hn⟩ : ∃ n, n = l.length := ⟨_, rfl⟩
  unfold BRow at hr
  rw [← hn] at hr hl ⊢
  have HN := Lib.hid hn; clear hn
  cases eight with
  | false =>
    go_enter Tryd.func33, Tryd.ntmps33
    go_wp2_with (at_builtin; (refine wpList_add (w0 := w0) rfl _ _ _ _ rfl 5 _ 1 bytesT u8i rfl (by omega) _ n _ rfl (hr.alloc _) (hg.alloc _) _ 2 [.int .u8 27, .int .u8 c] rfl (src_block bytesT _ (heap_alloc_new _ _) rfl (by simp [Value.oneCell'])) (by omega) ?_); intro va cap w' hown hgr)
    go_ret
    exact ⟨_, rfl, by rw [show pairR c false = [27, c] by simp [pairR]]; exact BRow.app (l2 := [27, c]) hown HN.out.symm rfl, hgr⟩
  | true =>
    by_cases h : 64 ≤ c ∧ c < 96
    · have h1 := in_true c 64 95 w h.1 (by omega)
      have hs : pairR c true = [c + 64] := by simp [pairR, h]
      have HS := Lib.hid hs; clear hs
      obtain ⟨h2, h3⟩ := h
      go_enter Tryd.func33, Tryd.ntmps33
      go_wp2_with (first
        | (go_at_call 29; refine h1.mono ?_; rintro e w' ⟨rfl, rfl⟩)
        | (at_builtin; (refine wpList_add (w0 := w0) rfl _ _ _ _ rfl 5 _ 1 bytesT u8i rfl (by omega) _ n _ rfl (hr.alloc _) (hg.alloc _) _ 1 [.int .u8 (c + 64)] rfl (src_block bytesT _ (heap_alloc_new _ _) rfl (by simp [Value.oneCell'])) (by omega) ?_); intro va cap w' hown hgr))
      go_ret
      exact ⟨_, rfl, by rw [HS.out]; exact BRow.app (l2 := [c + 64]) hown HN.out.symm rfl, hgr⟩
    · have h1 := in_false c 64 95 w (by omega)
      have hs : pairR c true = [27, c] := by simp [pairR]; omega
      have HS := Lib.hid hs; clear hs h
      go_enter Tryd.func33, Tryd.ntmps33
      go_wp2_with (first
        | (go_at_call 29; refine h1.mono ?_; rintro e w' ⟨rfl, rfl⟩)
        | (at_builtin; (refine wpList_add (w0 := w0) rfl _ _ _ _ rfl 5 _ 1 bytesT u8i rfl (by omega) _ n _ rfl (hr.alloc _) (hg.alloc _) _ 2 [.int .u8 27, .int .u8 c] rfl (src_block bytesT _ (heap_alloc_new _ _) rfl (by simp [Value.oneCell'])) (by omega) ?_); intro va cap w' hown hgr))
      go_ret
      exact ⟨_, rfl, by rw [HS.out]; exact BRow.app (l2 := [27, c]) hown HN.out.symm rfl, hgr⟩
end Go.Proofs.YtgbmjlajheeciaaDoor
