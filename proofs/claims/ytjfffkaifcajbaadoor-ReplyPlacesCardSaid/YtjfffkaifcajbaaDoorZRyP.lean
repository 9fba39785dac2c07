/-
  The law ReplyPlaces, walked.
-/
import Derived.Outline
import Derived.Test.YtjfffkaifcajbaaDoorZRyU
namespace Go.Proofs.YtjfffkaifcajbaaDoor
set_option linter.unusedSimpArgs false
set_option linter.unusedVariables false
open Go.RowKit
set_option linter.unusedVariables false

theorem clip16_id {n : Int} (h0 : 0 ≤ n) (h1 : n ≤ 65535) : clip16 n = n := by unfold clip16; rw [if_neg (by omega), if_neg (by omega)]
theorem moreI_id {n : Int} (h : n < 65535) : moreI n = n + 1 := if_neg (by omega)
theorem pl_1 (a b : Int) (h : 0 ≤ a ∧ a ≤ 65535) (h' : 0 ≤ b ∧ b ≤ 65535) : funT 4 [82] [a, b] [] = ⟨4, 82, 0, [a, b], [], []⟩ := by
  unfold funT
  simp [restR, markR, markB, clip16_id h.1 h.2, clip16_id h'.1 h'.2]
theorem pl_2 (a b c : Int) (h : 0 ≤ a ∧ a ≤ 65535) (h' : 0 ≤ b ∧ b ≤ 65535) (h'' : 0 ≤ c ∧ c ≤ 65535) : funT 4 [63, 82] [a, b, c] [] = ⟨4, 82, 63, [a, b, c], [], []⟩ := by
  unfold funT
  simp [restR, markR, markB, clip16_id h.1 h.2, clip16_id h'.1 h'.2, clip16_id h''.1 h''.2]
theorem pl_c1 (ps : List Int) : checkR (funT 4 [82] ps []) = 0 := csi_there (by simp [goodB, funT, restR, markR, markB, codeB, restB]) (by simp [restR, markB])
theorem pl_c2 (ps : List Int) : checkR (funT 4 [63, 82] ps []) = 0 := csi_there (by simp [goodB, funT, restR, markR, markB, codeB, restB]) (by simp [restR, markB])
set_option maxRecDepth 100000 in
set_option maxHeartbeats 4000000 in
theorem places_walk {w : World} (eight : Bool) (row col : Int) (hT : tabT w) : Calls Tryd.prog 6 #[.bool eight, .int .i64 row, .int .i64 col] w fun e w' => e = .returned (.bool true) ∧ Gr w w' := by
  have haw := awake18 hT
  have hcase : (row < 0) ∨ (0 ≤ row ∧ 60000 < row) ∨ (0 ≤ row ∧ row ≤ 60000 ∧ col < 0) ∨ (0 ≤ row ∧ row ≤ 60000 ∧ 0 ≤ col ∧ 60000 < col) ∨ (0 ≤ row ∧ row ≤ 60000 ∧ 0 ≤ col ∧ col ≤ 60000) := by omega
  rcases hcase with h | ⟨h, h2⟩ | ⟨h, h2, h3⟩ | ⟨h, h2, h3, h4⟩ | ⟨h, h2, h3, h4⟩
  iterate 4
    · go_enter Tryd.func6, Tryd.ntmps6
      go_wp2_with (go_at_call 7; (with_reducible refine haw.mono ?_); rintro e w1 ⟨rfl, hg1⟩)
      go_ret
      exact ⟨rfl, hg1⟩
  · have t1 := pl_1 (row + 1) (col + 1) (by omega) (by omega)
    have t2 := pl_2 (row + 1) (col + 1) 8 (by omega) (by omega) (by omega)
    have r1 : TRange (⟨4, 82, 0, [row + 1, col + 1], [], []⟩ : Tok) := by rw [← t1]; exact fun_range (by decide) (by decide)
    have r2 : TRange (⟨4, 82, 63, [row + 1, col + 1, 8], [], []⟩ : Tok) := by rw [← t2]; exact fun_range (by decide) (by decide)
    have k1 : checkR (⟨4, 82, 0, [row + 1, col + 1], [], []⟩ : Tok) = 0 := by rw [← t1]; exact pl_c1 _
    have k2 : checkR (⟨4, 82, 63, [row + 1, col + 1, 8], [], []⟩ : Tok) = 0 := by rw [← t2]; exact pl_c2 _
    have c1 : ∀ W, Gr w W → Calls Tryd.prog 18 #[.bool eight, .int .i64 row, .int .i64 col, .int .i64 (-1)] W (AnsOwn W (ansR ⟨4, 82, 0, [row + 1, col + 1], [], []⟩ eight)) := fun W hg => by
      have := place_any eight row col (-1) (hT.gr hg) (by decide)
      rw [show placeI (-1) = [82] from rfl, show placeR row col (-1) = [moreI row, moreI col] from rfl, moreI_id (by omega), moreI_id (by omega)] at this
      unfold csiR at this
      rw [t1] at this
      exact this
    have c2 : ∀ W, Gr w W → Calls Tryd.prog 18 #[.bool (!eight), .int .i64 row, .int .i64 col, .int .i64 7] W (AnsOwn W (ansR ⟨4, 82, 63, [row + 1, col + 1, 8], [], []⟩ (!eight))) := fun W hg => by
      have := place_any (!eight) row col 7 (hT.gr hg) (by decide)
      rw [show placeI 7 = [63, 82] from rfl, show placeR row col 7 = [moreI row, moreI col, moreI 7] from rfl, moreI_id (by omega), moreI_id (by omega), show moreI 7 = 8 from rfl] at this
      unfold csiR at this
      rw [t2] at this
      exact this
    have c3 : ∀ (W : World) (a : Option Addr) (n c : Nat) (L : List Int), L = ansR ⟨4, 82, 0, [row + 1, col + 1], [], []⟩ eight ++ ansR ⟨4, 82, 63, [row + 1, col + 1, 8], [], []⟩ (!eight) → Rd W a n (bcells L) → Calls Tryd.prog 29 #[.slice a n c] W (ToksTo W [⟨4, 82, 0, [row + 1, col + 1], [], []⟩, ⟨4, 82, 63, [row + 1, col + 1, 8], [], []⟩]) := fun W a n c L hL hr => split_two hL hr r1 r2 k1 k2
    have l1 := bytes_len (check_zero r1 k1) eight
    have l2 := bytes_len (check_zero r2 k2) (!eight)
    have a1 : ansR (⟨4, 82, 0, [row + 1, col + 1], [], []⟩ : Tok) eight = bytesR ⟨4, 82, 0, [row + 1, col + 1], [], []⟩ eight := if_pos k1
    have a2 : ansR (⟨4, 82, 63, [row + 1, col + 1, 8], [], []⟩ : Tok) (!eight) = bytesR ⟨4, 82, 63, [row + 1, col + 1, 8], [], []⟩ (!eight) := if_pos k2
    rw [← a1] at l1
    rw [← a2] at l2
    obtain ⟨A, hA⟩ : ∃ A, A = ansR (⟨4, 82, 0, [row + 1, col + 1], [], []⟩ : Tok) eight := ⟨_, rfl⟩
    obtain ⟨B, hB⟩ : ∃ B, B = ansR (⟨4, 82, 63, [row + 1, col + 1, 8], [], []⟩ : Tok) (!eight) := ⟨_, rfl⟩
    rw [← hA] at c1 c3 l1
    rw [← hB] at c2 c3 l2
    have i1 : ∀ W pa pc da dc, Calls Tryd.prog 30 #[.agg #[.int .i64 4, .int .u8 82, .int .u8 0, .slice pa 2 pc, .string (strOf []), .slice da 0 dc]] W fun e w' => e = .returned (.string ⟨#[82]⟩) ∧ Gr W w' := fun W pa pc da dc => id_any (k := 4) (c := 82) (m := 0) (l := []) (by simp) (by simp)
    have i2 : ∀ W pa pc da dc, Calls Tryd.prog 30 #[.agg #[.int .i64 4, .int .u8 82, .int .u8 63, .slice pa 3 pc, .string (strOf []), .slice da 0 dc]] W fun e w' => e = .returned (.string ⟨#[63, 82]⟩) ∧ Gr W w' := fun W pa pc da dc => id_any (k := 4) (c := 82) (m := 63) (l := []) (by simp) (by simp)
    have q1 : ∀ W g v, HasRow W 3 v 2 (icells [row + 1, col + 1]) → W.heap[g]? = some (.cells #[.int .i64 (row + 1), .int .i64 (col + 1)] 3 (0, 0)) → Calls Tryd.prog 28 #[v, .slice (some ⟨g, 0, none⟩) 2 2] W fun e w' => e = .returned (.bool true) ∧ Gr W w' := fun W g v hv hb => same_ints (l := [row + 1, col + 1]) hv (hasRow_lit (n := 2) rfl rfl hb) (by simp)
    have q2 : ∀ W g v, HasRow W 3 v 3 (icells [row + 1, col + 1, 8]) → W.heap[g]? = some (.cells #[.int .i64 (row + 1), .int .i64 (col + 1), .int .i64 8] 3 (0, 0)) → Calls Tryd.prog 28 #[v, .slice (some ⟨g, 0, none⟩) 3 3] W fun e w' => e = .returned (.bool true) ∧ Gr W w' := fun W g v hv hb => same_ints (l := [row + 1, col + 1, 8]) hv (hasRow_lit (n := 3) rfl rfl hb) (by simp)
    obtain ⟨nA, hnA⟩ : ∃ n, n = A.length := ⟨_, rfl⟩
    obtain ⟨nB, hnB⟩ : ∃ n, n = B.length := ⟨_, rfl⟩
    have c1' : ∀ W, Gr w W → Calls Tryd.prog 18 #[.bool eight, .int .i64 row, .int .i64 col, .int .i64 (-1)] W fun e w' => ∃ va vc, e = .returned (.slice va nA vc) ∧ w'.ownsRow W.heap.size 5 1 (.slice va nA vc) nA (bcells A) ∧ Gr W w' := by rw [hnA]; exact c1
    have c2' : ∀ W, Gr w W → Calls Tryd.prog 18 #[.bool (!eight), .int .i64 row, .int .i64 col, .int .i64 7] W fun e w' => ∃ va vc, e = .returned (.slice va nB vc) ∧ w'.ownsRow W.heap.size 5 1 (.slice va nB vc) nB (bcells B) ∧ Gr W w' := by rw [hnB]; exact c2
    rw [← hnA] at l1
    rw [← hnB] at l2
    have c3' := fun W a n c => c3 W a n c (A ++ B) rfl
    have hbc : bcells (A ++ B) = bcells A ++ bcells B := by simp [bcells]
    rw [hbc] at c3'
    clear hnA hnB c1 c2 c3 hA hB a1 a2 t1 t2 r1 r2 k1 k2 hbc
    go_enter Tryd.func6, Tryd.ntmps6
    go_wp2_with (first
      | (go_at_call 7; (with_reducible refine haw.mono ?_); rintro e w1 ⟨rfl, hg1⟩)
      | (go_at_call 18; (first
          | ((with_reducible refine (c1' _ hg1).mono ?_); rintro e w2 ⟨va, vc, rfl, hO1, hg2⟩; have hg12 := hg1.trans hg2)
          | ((with_reducible refine (c2' _ hg12).mono ?_); rintro e w3 ⟨vb, vd, rfl, hO2, hg3⟩; have hg13 := hg12.trans hg3; have hsrc := src_has (HasRow.of_own hO2); have hO1' := World.ownsRow.mono (ownsRow_gr hO1 hg3) hg1.size)))
      | (at_builtin; (refine wpList_addX (w0 := w) rfl _ _ _ _ rfl 5 _ 1 bytesT u8i rfl _ nA _ rfl hO1' hg13 _ nB (bcells B) rfl hsrc (by unfold maxLen; omega) (by omega) ?_); intro ve ce w4 hown4 hg4 hgb4; have hrd4 := (HasRow.of_own hown4).rd_)
      | (go_at_call 29; (with_reducible refine (c3' _ _ _ _ hrd4).mono ?_); rintro e w5 ⟨ov, qs, rfl, hAT, hg5⟩; obtain ⟨g, cap, pa, pc, da, dc, pb, pd, db, dd, rfl, hTw, hR1, hR2⟩ := two_at hAT; have hg15 := hg4.trans hg5; have h1r : HasRow w5 3 (.slice pa 2 pc) 2 (icells [row + 1, col + 1]) := hR1.params; have h2r : HasRow w5 3 (.slice pb 3 pd) 3 (icells [row + 1, col + 1, 8]) := hR2.params; have hTz := hTw; obtain ⟨e0, e1, e2, e3, e4, e5, f0, f1, f2, f3, f4, f5⟩ := hTz)
      | (go_at_call 30; (first | (with_reducible refine (i1 _ _ _ _ _).mono ?_) | (with_reducible refine (i2 _ _ _ _ _).mono ?_)); rintro e w6 ⟨rfl, hg6⟩; have hg15 := hg15.trans hg6; have hTw := hTw.gr hg6; have h1r := h1r.gr hg6; have h2r := h2r.gr hg6; clear e0 e1 e2 e3 e4 e5 f0 f1 f2 f3 f4 f5; have hTz := hTw; obtain ⟨e0, e1, e2, e3, e4, e5, f0, f1, f2, f3, f4, f5⟩ := hTz)
      | (go_at_call 28; (first | (with_reducible refine (q1 _ _ _ (h1r.gr ((Gr.refl _).alloc _)) (heap_alloc_new _ _)).mono ?_) | (with_reducible refine (q2 _ _ _ (h2r.gr ((Gr.refl _).alloc _)) (heap_alloc_new _ _)).mono ?_)); rintro e w7 ⟨rfl, hg7⟩; have hg7 := ((Gr.refl _).alloc _).trans hg7; have hg15 := hg15.trans hg7; have hTw := hTw.gr hg7; have h1r := h1r.gr hg7; have h2r := h2r.gr hg7; clear e0 e1 e2 e3 e4 e5 f0 f1 f2 f3 f4 f5; have hTz := hTw; obtain ⟨e0, e1, e2, e3, e4, e5, f0, f1, f2, f3, f4, f5⟩ := hTz))
    go_ret
    exact ⟨rfl, hg15⟩
theorem places_laid {w : World} (h : laidMetH Tryd.prog Rows.replyPlacesRow.laid w) : tabT w := by
  unfold Rows.replyPlacesRow at h
  rw [MakeChecks.laidMetH_plain _ _ _ (by kernel_rfl)] at h
  exact tabT_met (laidMet_tail2 (laidMet_tail2 h))
theorem places_law (eight : Bool) (row col : Int) (w : World) (hlaid : laidMetH Tryd.prog Rows.replyPlacesRow.laid w) (hsh : w.ShapedOpen Tryd.prog) : Calls Tryd.prog 6 #[.bool eight, .int .i64 row, .int .i64 col] w fun e w' => e = .returned (.bool true) ∧ Gr w w' := places_walk eight row col (places_laid hlaid)
end Go.Proofs.YtjfffkaifcajbaaDoor
