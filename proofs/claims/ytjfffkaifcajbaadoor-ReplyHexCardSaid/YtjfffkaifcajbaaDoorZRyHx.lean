/-
  The law ReplyHex, walked.
-/
import Derived.Test.YtjfffkaifcajbaaDoorZTkX0
import Derived.Test.YtjfffkaifcajbaaDoorZRyJ
namespace Go.Proofs.YtjfffkaifcajbaaDoor
set_option linter.unusedSimpArgs false
set_option linter.unusedVariables false
open Go.RowKit
set_option linter.unusedVariables false

theorem fromR_back (l : List UInt8) : fromR (hexB l) = (l, 0) := by unfold fromR; rw [hex_back]
set_option maxRecDepth 100000 in
set_option maxHeartbeats 2000000 in
theorem hex_walk {w : World} (s t : ByteArray) (hT : tabT w) : Calls Tryd.prog 3 #[.string s, .string t] w fun e w' => e = .returned (.bool true) ∧ Gr w w' := by
  have haw := awake18 hT
  by_cases hbig : 2000 < s.size ∨ 2000 < t.size
  · rcases hbig with h1 | h1
    · have h1' : (2000 : Int) < (s.size : Int) := by omega
      go_enter Tryd.func3, Tryd.ntmps3
      go_wp2_with (go_at_call 7; (with_reducible refine haw.mono ?_); rintro e w1 ⟨rfl, hg1⟩)
      go_ret
      exact ⟨rfl, hg1⟩
    · by_cases h0 : 2000 < s.size
      all_goals
        have h0' : (decide ((2000 : Int) < (s.size : Int))) = decide (2000 < s.size) := by simp; omega
        have h1' : (2000 : Int) < (t.size : Int) := by omega
        clear h0'
        go_enter Tryd.func3, Tryd.ntmps3
        go_wp2_with (go_at_call 7; (with_reducible refine haw.mono ?_); rintro e w1 ⟨rfl, hg1⟩)
        go_ret
        exact ⟨rfl, hg1⟩
  · have hs : s.size ≤ 2000 := by omega
    have ht : t.size ≤ 2000 := by omega
    have hs1 : ¬ (2000 : Int) < (s.size : Int) := by omega
    have ht1 : ¬ (2000 : Int) < (t.size : Int) := by omega
    have es := bsl_of s
    have et := bsl_of t
    have hls : s.data.toList.length = s.size := by rw [Array.length_toList]; rfl
    have hlt : t.data.toList.length = t.size := by rw [Array.length_toList]; rfl
    obtain ⟨ls, els⟩ : ∃ l, l = s.data.toList := ⟨_, rfl⟩
    obtain ⟨lt, elt⟩ : ∃ l, l = t.data.toList := ⟨_, rfl⟩
    rw [← els] at es hls
    rw [← elt] at et hlt
    have c1 : ∀ W, Calls Tryd.prog 9 #[.string s] W fun e w' => e = .returned (.string (bsl (hexB ls))) ∧ Gr W w' := fun W => by rw [es]; exact hex_any ls W (by omega)
    have c2 : ∀ W, Calls Tryd.prog 10 #[.string s] W fun e w' => e = .returned (.string (bsl (hexB ls))) ∧ Gr W w' := fun W => by rw [es]; exact rhex_any ls W (by omega)
    have c3 : ∀ W, Calls Tryd.prog 8 #[.string (bsl (hexB ls))] W fun e w' => e = .returned (.tuple #[.string s, .int .i64 0]) ∧ Gr W w' := fun W => by
      have := fromHex_any (hexB ls) W (by rw [hexB_len]; omega)
      rw [fromR_back, ← es] at this
      exact this
    obtain ⟨x, y, b, hxy⟩ : ∃ (x : ByteArray) (y : Int) (b : Bool), (x = bsl (fromR lt).1 ∧ y = (fromR lt).2 ∧ x = bsl (docR lt).1 ∧ b = (docR lt).2) ∧ (b = true ∧ y = 0 ∨ b = false ∧ y = 3) := by
      unfold fromR docR
      cases hexR lt with
      | none => exact ⟨_, _, _, ⟨rfl, rfl, rfl, rfl⟩, .inr ⟨rfl, rfl⟩⟩
      | some o => exact ⟨_, _, _, ⟨rfl, rfl, rfl, rfl⟩, .inl ⟨rfl, rfl⟩⟩
    obtain ⟨⟨x1, y1, x2, b1⟩, hby⟩ := hxy
    have c4 : ∀ W, Calls Tryd.prog 8 #[.string t] W fun e w' => e = .returned (.tuple #[.string x, .int .i64 y]) ∧ Gr W w' := fun W => by rw [et, x1, y1]; exact fromHex_any lt W (by omega)
    have c5 : ∀ W, Calls Tryd.prog 11 #[.string t] W fun e w' => e = .returned (.tuple #[.string x, .bool b]) ∧ Gr W w' := fun W => by rw [et, x2, b1]; exact rfromHex_any lt W (by omega)
    obtain ⟨H, hH⟩ : ∃ H, H = bsl (hexB ls) := ⟨_, rfl⟩
    rw [← hH] at c1 c2 c3
    clear hH x1 y1 x2 b1 es et hls hlt els elt hbig
    rcases hby with ⟨rfl, rfl⟩ | ⟨rfl, rfl⟩
    all_goals
      go_enter Tryd.func3, Tryd.ntmps3
      go_wp2_with (first
        | (go_at_call 7; (with_reducible refine haw.mono ?_); rintro e w1 ⟨rfl, hg1⟩)
        | (go_at_call 9; (with_reducible refine (c1 _).mono ?_); rintro e w2 ⟨rfl, hg2⟩; have hg1 := hg1.trans hg2)
        | (go_at_call 10; (with_reducible refine (c2 _).mono ?_); rintro e w2 ⟨rfl, hg2⟩; have hg1 := hg1.trans hg2)
        | (go_at_call 8; (first | (with_reducible refine (c3 _).mono ?_) | (with_reducible refine (c4 _).mono ?_)); rintro e w2 ⟨rfl, hg2⟩; have hg1 := hg1.trans hg2)
        | (go_at_call 11; (with_reducible refine (c5 _).mono ?_); rintro e w2 ⟨rfl, hg2⟩; have hg1 := hg1.trans hg2))
      go_ret
      exact ⟨rfl, hg1⟩
theorem hex_laid {w : World} (h : laidMetH Tryd.prog Rows.replyHexRow.laid w) : tabT w := by
  unfold Rows.replyHexRow at h
  rw [MakeChecks.laidMetH_plain _ _ _ (by kernel_rfl)] at h
  exact tabT_met (laidMet_tail2 (laidMet_tail2 h))
theorem hex_law (s t : ByteArray) (w : World) (w0 : s.size ≤ maxLen) (w1 : t.size ≤ maxLen) (hlaid : laidMetH Tryd.prog Rows.replyHexRow.laid w) (hsh : w.ShapedOpen Tryd.prog) : Calls Tryd.prog 3 #[.string s, .string t] w fun e w' => e = .returned (.bool true) ∧ Gr w w' := hex_walk s t (hex_laid hlaid)
end Go.Proofs.YtjfffkaifcajbaaDoor
