/-
  A token's bytes in the program's text: every token that can be.
-/
import Derived.Test.YtonbnmicgmnliaaDoorZTkF
namespace Go.Proofs.YtonbnmicgmnliaaDoor
set_option linter.unusedSimpArgs false
set_option linter.unusedVariables false
open Go.RowKit
set_option linter.unusedVariables false

theorem BRow.lit {w0 w : World} {g : Nat} {l : List Int} {n : Nat} (h : w.heap[g]? = some (.cells (bcells l).toArray 5 (0, 0))) (hb : w0.heap.size ≤ g) (hn : l.length = n) (hm : n ≤ 1000) : BRow w0 w (.slice (some ⟨g, 0, none⟩) n n) l := by
  subst hn
  exact ⟨by simp [bcells], .inr ⟨g, l.length, _, rfl, hb, h, Nat.le_refl _, by unfold maxLen; omega, by simp [bcells], by simp [bcells]; exact List.take_of_length_le (by simp)⟩⟩

set_option maxRecDepth 100000 in
set_option maxHeartbeats 1000000 in
theorem bytes_one {w : World} {k c : Int} {a1 a2 : Option Addr} {c1 c2 : Nat} (eight : Bool) (hk : k = 1 ∨ k = 2)
    (hck : ∀ w', Gr w w' → Calls Tryd.prog 55 #[.agg #[.int .i64 k, .int .u8 c, .int .u8 0, .slice a1 0 c1, .string (strOf []), .slice a2 0 c2]] w' fun e w2 => e = .returned (.int .i64 0) ∧ Gr w' w2) :
    Calls Tryd.prog 45 #[.agg #[.int .i64 k, .int .u8 c, .int .u8 0, .slice a1 0 c1, .string (strOf []), .slice a2 0 c2], .bool eight] w (TBytes w (bytesR ⟨k, c, 0, [], [], []⟩ eight)) := by
  have hb0 := heap_alloc_new w (.cells #[.int .i64 k, .int .u8 c, .int .u8 0, .slice a1 0 c1, .string (strOf []), .slice a2 0 c2] 88)
  have hw0 := (Gr.refl w).alloc (.cells #[.int .i64 k, .int .u8 c, .int .u8 0, .slice a1 0 c1, .string (strOf []), .slice a2 0 c2] 88)
  obtain ⟨s, hsd⟩ : ∃ s, s = strOf [] := ⟨_, rfl⟩
  rw [← hsd] at hck hb0 hw0 ⊢
  clear hsd
  have hfin : bytesR ⟨k, c, 0, [], [], []⟩ eight = [c] := by rcases hk with rfl | rfl <;> simp [bytesR]
  rw [hfin]
  clear hfin
  rcases hk with rfl | rfl
  all_goals
    go_enter Tryd.func45, Tryd.ntmps45
    go_wp2_with (go_at_call 55; refine (hck _ hw0).mono ?_; rintro e w2 ⟨rfl, hg2⟩; have hw2 := hw0.trans hg2; obtain ⟨t0, t1, t2, t3, t4, t5, tf⟩ := cells6 (hg2.blk hb0))
    go_ret2
    exact ⟨_, rfl, ⟨w2, hw2, BRow.lit (l := [c]) (heap_alloc_new _ _) (Nat.le_refl _) rfl (by omega)⟩, hw2.alloc _⟩

set_option maxRecDepth 100000 in
set_option maxHeartbeats 1000000 in
theorem bytes_esc0 {w : World} {c : Int} {a1 a2 : Option Addr} {c1 c2 : Nat} (eight : Bool) (hc : 48 ≤ c ∧ c ≤ 126)
    (hck : ∀ w', Gr w w' → Calls Tryd.prog 55 #[.agg #[.int .i64 3, .int .u8 c, .int .u8 0, .slice a1 0 c1, .string (strOf []), .slice a2 0 c2]] w' fun e w2 => e = .returned (.int .i64 0) ∧ Gr w' w2) :
    Calls Tryd.prog 45 #[.agg #[.int .i64 3, .int .u8 c, .int .u8 0, .slice a1 0 c1, .string (strOf []), .slice a2 0 c2], .bool eight] w (TBytes w (bytesR ⟨3, c, 0, [], [], []⟩ eight)) := by
  rw [strOf_nil] at hck ⊢
  have hb0 := heap_alloc_new w (.cells #[.int .i64 3, .int .u8 c, .int .u8 0, .slice a1 0 c1, .string ⟨#[]⟩, .slice a2 0 c2] 88)
  have hw0 := (Gr.refl w).alloc (.cells #[.int .i64 3, .int .u8 c, .int .u8 0, .slice a1 0 c1, .string ⟨#[]⟩, .slice a2 0 c2] 88)
  have hfin : bytesR ⟨3, c, 0, [], [], []⟩ eight = pairR c eight := by simp [bytesR]
  rw [hfin]
  clear hfin
  obtain ⟨c1', c2'⟩ := hc
  go_enter Tryd.func45, Tryd.ntmps45
  go_wp2_with (first
    | (go_at_call 55; refine (hck _ hw0).mono ?_; rintro e w2 ⟨rfl, hg2⟩; have hw2 := hw0.trans hg2; obtain ⟨t0, t1, t2, t3, t4, t5, tf⟩ := cells6 (hg2.blk hb0))
    | (go_at_call 56; refine (pair_walk (w0 := w2) (l := []) (c := c) eight (BRow.nil _ _) (Gr.refl _) (by simp) ⟨by omega, by omega⟩).mono ?_; rintro e w4 ⟨v4, rfl, hr4, hg4⟩; obtain ⟨va4, vc4, rfl⟩ := hr4.form; obtain ⟨b4, hB4⟩ : ∃ b, b = [] ++ pairR c eight := ⟨_, rfl⟩; rw [← hB4] at hr4 ⊢; have HB4 := Lib.hid hB4; clear hB4))
  go_ret2
  have hb4 := HB4.out
  simp only [List.nil_append] at hb4
  rw [← hb4]
  exact ⟨_, rfl, ⟨w2, hw2, hr4⟩, hw2.trans hg4⟩

theorem bytes_can {w : World} {t : Tok} {q : Value × Value} (hc : Can t) (h : RTok w t q) (hT : tabT w) (eight : Bool) :
    Calls Tryd.prog 45 #[.agg (tcells t q).toArray, .bool eight] w (TBytes w (bytesR t eight)) := by
  have hck := fun w' (hg : Gr w w') => check_can hc (h.gr hg)
  obtain ⟨qp, qd⟩ := q
  obtain ⟨a1, c1, hv1⟩ := h.params.form
  obtain ⟨a2, c2, hv2⟩ := h.data.form
  simp only at hv1 hv2
  subst hv1; subst hv2
  have hp0 := h.params
  have hd0 := h.data
  cases hc with
  | print c hh => exact bytes_one eight (.inl rfl) hck
  | ctrl c hh => exact bytes_one eight (.inr rfl) hck
  | esc c l hh hl hx =>
    by_cases hl0 : l = []
    · subst hl0; exact bytes_esc0 eight hh hck
    · exact bytes_esc (m := 0) (ps := []) (d := []) eight hh hl hl0 hp0 hT hck
  | csi c m ps l hh hm hp hl =>
    rcases hm with rfl | hm
    · exact bytes_csi (m := 0) (d := []) eight hh hp hl hp0 hT hck
    · exact bytes_csi_m (d := []) eight hh hm hp hl hp0 hT hck
  | dcs c m ps l d hh hm hp hl hd =>
    rcases hm with rfl | hm
    · exact bytes_dcs (m := 0) eight hh hp hl hd hd0 hp0 hT hck
    · exact bytes_dcs_m eight hh hm hp hl hd hd0 hp0 hT hck
  | str k d hk hd =>
    rcases (by omega : k = 6 ∨ k = 7 ∨ k = 8 ∨ k = 9) with rfl | rfl | rfl | rfl
    · exact bytes_str6 (c := 0) (m := 0) (ps := []) (l := []) eight hd hd0 hp0 hT hck
    · exact bytes_str7 (c := 0) (m := 0) (ps := []) (l := []) eight hd hd0 hp0 hT hck
    · exact bytes_str8 (c := 0) (m := 0) (ps := []) (l := []) eight hd hd0 hp0 hT hck
    · exact bytes_str9 (c := 0) (m := 0) (ps := []) (l := []) eight hd hd0 hp0 hT hck
end Go.Proofs.YtonbnmicgmnliaaDoor
