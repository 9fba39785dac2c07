/-
  A token's bytes in the program's text: every token that can be.
  A token that can't be: the small questions, walked.
-/
import Derived.Test.YtnnhaenmoifplaaDoorZTkF
namespace Go.Proofs.YtnnhaenmoifplaaDoor
set_option linter.unusedSimpArgs false
set_option linter.unusedVariables false
open Go.RowKit
set_option linter.unusedVariables false

theorem BRow.lit {w0 w : World} {g : Nat} {l : List Int} {n : Nat} (h : w.heap[g]? = some (.cells (bcells l).toArray 5 (0, 0))) (hb : w0.heap.size ≤ g) (hn : l.length = n) (hm : n ≤ 1000) : BRow w0 w (.slice (some ⟨g, 0, none⟩) n n) l := by
  subst hn
  exact ⟨by simp [bcells], .inr ⟨g, l.length, _, rfl, hb, h, Nat.le_refl _, by unfold maxLen; omega, by simp [bcells], by simp [bcells]; exact List.take_of_length_le (by simp)⟩⟩

set_option maxRecDepth 100000 in
set_option maxHeartbeats 1000000 in
theorem bytes_one {w : World} {k c : Int} {a1 a2 : Option Addr} {c1 c2 : Nat} (eight : Bool) (hk : k = 1 ∨ k = 2)
    (hck : ∀ w', Gr w w' → Calls Tryd.prog 48 #[.agg #[.int .i64 k, .int .u8 c, .int .u8 0, .slice a1 0 c1, .string (strOf []), .slice a2 0 c2]] w' fun e w2 => e = .returned (.int .i64 0) ∧ Gr w' w2) :
    Calls Tryd.prog 39 #[.agg #[.int .i64 k, .int .u8 c, .int .u8 0, .slice a1 0 c1, .string (strOf []), .slice a2 0 c2], .bool eight] w (TBytes w (bytesR ⟨k, c, 0, [], [], []⟩ eight)) := by
  have hb0 := heap_alloc_new w (.cells #[.int .i64 k, .int .u8 c, .int .u8 0, .slice a1 0 c1, .string (strOf []), .slice a2 0 c2] 34)
  have hw0 := (Gr.refl w).alloc (.cells #[.int .i64 k, .int .u8 c, .int .u8 0, .slice a1 0 c1, .string (strOf []), .slice a2 0 c2] 34)
  obtain ⟨s, hsd⟩ : ∃ s, s = strOf [] := ⟨_, rfl⟩
  rw [← hsd] at hck hb0 hw0 ⊢
  clear hsd
  have hfin : bytesR ⟨k, c, 0, [], [], []⟩ eight = [c] := by rcases hk with rfl | rfl <;> simp [bytesR]
  rw [hfin]
  clear hfin
  rcases hk with rfl | rfl
  all_goals
    go_enter Tryd.func39, Tryd.ntmps39
    go_wp2_with (go_at_call 48; refine (hck _ hw0).mono ?_; rintro e w2 ⟨rfl, hg2⟩; have hw2 := hw0.trans hg2; obtain ⟨t0, t1, t2, t3, t4, t5, tf⟩ := cells6 (hg2.blk hb0))
    go_ret2
    exact ⟨_, rfl, ⟨w2, hw2, BRow.lit (l := [c]) (heap_alloc_new _ _) (Nat.le_refl _) rfl (by omega)⟩, hw2.alloc _⟩

set_option maxRecDepth 100000 in
set_option maxHeartbeats 1000000 in
theorem bytes_esc0 {w : World} {c : Int} {a1 a2 : Option Addr} {c1 c2 : Nat} (eight : Bool) (hc : 48 ≤ c ∧ c ≤ 126)
    (hck : ∀ w', Gr w w' → Calls Tryd.prog 48 #[.agg #[.int .i64 3, .int .u8 c, .int .u8 0, .slice a1 0 c1, .string (strOf []), .slice a2 0 c2]] w' fun e w2 => e = .returned (.int .i64 0) ∧ Gr w' w2) :
    Calls Tryd.prog 39 #[.agg #[.int .i64 3, .int .u8 c, .int .u8 0, .slice a1 0 c1, .string (strOf []), .slice a2 0 c2], .bool eight] w (TBytes w (bytesR ⟨3, c, 0, [], [], []⟩ eight)) := by
  rw [strOf_nil] at hck ⊢
  have hb0 := heap_alloc_new w (.cells #[.int .i64 3, .int .u8 c, .int .u8 0, .slice a1 0 c1, .string ⟨#[]⟩, .slice a2 0 c2] 34)
  have hw0 := (Gr.refl w).alloc (.cells #[.int .i64 3, .int .u8 c, .int .u8 0, .slice a1 0 c1, .string ⟨#[]⟩, .slice a2 0 c2] 34)
  have hfin : bytesR ⟨3, c, 0, [], [], []⟩ eight = pairR c eight := by simp [bytesR]
  rw [hfin]
  clear hfin
  obtain ⟨c1', c2'⟩ := hc
  go_enter Tryd.func39, Tryd.ntmps39
  go_wp2_with (first
    | (go_at_call 48; refine (hck _ hw0).mono ?_; rintro e w2 ⟨rfl, hg2⟩; have hw2 := hw0.trans hg2; obtain ⟨t0, t1, t2, t3, t4, t5, tf⟩ := cells6 (hg2.blk hb0))
    | (go_at_call 49; refine (pair_walk (w0 := w2) (l := []) (c := c) eight (BRow.nil _ _) (Gr.refl _) (by simp) ⟨by omega, by omega⟩).mono ?_; rintro e w4 ⟨v4, rfl, hr4, hg4⟩; obtain ⟨va4, vc4, rfl⟩ := hr4.form; obtain ⟨b4, hB4⟩ : ∃ b, b = [] ++ pairR c eight := ⟨_, rfl⟩; rw [← hB4] at hr4 ⊢; have HB4 := Lib.hid hB4; clear hB4))
  go_ret2
  have hb4 := HB4.out
  simp only [List.nil_append] at hb4
  rw [← hb4]
  exact ⟨_, rfl, ⟨w2, hw2, hr4⟩, hw2.trans hg4⟩

theorem bytes_can {w : World} {t : Tok} {q : Value × Value} (hc : Can t) (h : RTok w t q) (hT : tabT w) (eight : Bool) :
    Calls Tryd.prog 39 #[.agg (tcells t q).toArray, .bool eight] w (TBytes w (bytesR t eight)) := by
  have hck := fun w' (hg : Gr w w') => check_can hc (h.gr hg)
  obtain ⟨qp, qd⟩ := q
  obtain ⟨a1, c1, hv1⟩ := h.params.form
  obtain ⟨a2, c2, hv2⟩ := h.data.form
  simp only at hv1 hv2
  subst hv1; subst hv2
  have hp0 := h.params
  have hd0 := h.data
  cases hc with
  | print c hh => exact bytes_one eight (.inl rfl) hck
  | ctrl c hh => exact bytes_one eight (.inr rfl) hck
  | esc c l hh hl hx =>
    by_cases hl0 : l = []
    · subst hl0; exact bytes_esc0 eight hh hck
    · exact bytes_esc (m := 0) (ps := []) (d := []) eight hh hl hl0 hp0 hT hck
  | csi c m ps l hh hm hp hl =>
    rcases hm with rfl | hm
    · exact bytes_csi (m := 0) (d := []) eight hh hp hl hp0 hT hck
    · exact bytes_csi_m (d := []) eight hh hm hp hl hp0 hT hck
  | dcs c m ps l d hh hm hp hl hd =>
    rcases hm with rfl | hm
    · exact bytes_dcs (m := 0) eight hh hp hl hd hd0 hp0 hT hck
    · exact bytes_dcs_m eight hh hm hp hl hd hd0 hp0 hT hck
  | str k d hk hd =>
    rcases (by omega : k = 6 ∨ k = 7 ∨ k = 8 ∨ k = 9) with rfl | rfl | rfl | rfl
    · exact bytes_str6 (c := 0) (m := 0) (ps := []) (l := []) eight hd hd0 hp0 hT hck
    · exact bytes_str7 (c := 0) (m := 0) (ps := []) (l := []) eight hd hd0 hp0 hT hck
    · exact bytes_str8 (c := 0) (m := 0) (ps := []) (l := []) eight hd hd0 hp0 hT hck
    · exact bytes_str9 (c := 0) (m := 0) (ps := []) (l := []) eight hd hd0 hp0 hT hck
end Go.Proofs.YtnnhaenmoifplaaDoor

namespace Go.Proofs.YtnnhaenmoifplaaDoor
set_option linter.unusedSimpArgs false
set_option linter.unusedVariables false
open Go.RowKit
set_option linter.unusedVariables false

def inB (c a b : Int) : Bool := decide (a ≤ c ∧ c ≤ b)
theorem in_any (c a b : Int) (w : World) : Calls Tryd.prog 60 #[.int .u8 c, .int .u8 a, .int .u8 b] w fun e w' => e = .returned (.bool (inB c a b)) ∧ w = w' := by
  by_cases h : a ≤ c ∧ c ≤ b
  · rw [show inB c a b = true from decide_eq_true h]; exact in_true c a b w h.1 h.2
  · rw [show inB c a b = false from decide_eq_false h]; exact in_false c a b w (by omega)
def showsB (c : Int) : Bool := decide ((32 ≤ c ∧ c ≤ 126) ∨ 160 ≤ c)
theorem shows_any (c : Int) (w : World) : Calls Tryd.prog 66 #[.int .u8 c] w fun e w' => e = .returned (.bool (showsB c)) ∧ w = w' := by
  by_cases h : (32 ≤ c ∧ c ≤ 126) ∨ 160 ≤ c
  · rw [show showsB c = true from decide_eq_true h]; exact shows_true c w h
  · rw [show showsB c = false from decide_eq_false h]
    have h1 : c < 32 ∨ 126 < c := by omega
    have h2 : decide (160 ≤ c) = false := by simp; omega
    have H1 := Lib.hid h1
    clear h h1
    go_enter Tryd.func66, Tryd.ntmps66
    go_wp2_with (go_at_call 60; refine (in_false c 32 126 _ H1.out).mono ?_; rintro e w' ⟨rfl, rfl⟩)
    go_ret
    exact ⟨rfl, rfl⟩
theorem data_any (c : Int) (w : World) : Calls Tryd.prog 59 #[.int .u8 c] w fun e w' => e = .returned (.bool (dataOk c)) ∧ w = w' := by
  cases h : dataOk c with
  | true => exact data_true c w h
  | false =>
    have hf : ¬ ((8 ≤ c ∧ c ≤ 13) ∨ (32 ≤ c ∧ c ≤ 126) ∨ 160 ≤ c) := by
      intro hx
      have : dataOk c = true := by simp [dataOk]; omega
      rw [this] at h; cases h
    have hs := shows_any c
    rw [show showsB c = false from decide_eq_false (by omega)] at hs
    have h1 : c < 8 ∨ 13 < c := by omega
    have H1 := Lib.hid h1
    clear h hf h1
    go_enter Tryd.func59, Tryd.ntmps59
    go_wp2_with (first
      | (go_at_call 66; refine (hs _).mono ?_; rintro e w' ⟨rfl, rfl⟩)
      | (go_at_call 60; refine (in_false c 8 13 _ H1.out).mono ?_; rintro e w' ⟨rfl, rfl⟩))
    go_ret
    exact ⟨rfl, rfl⟩
def interB (c : Int) : Bool := decide (32 ≤ c ∧ c ≤ 47)
theorem inter_any (c : Int) (w : World) : Calls Tryd.prog 58 #[.int .i32 c] w fun e w' => e = .returned (.bool (interB c)) ∧ w = w' := by
  by_cases h : 32 ≤ c ∧ c ≤ 47
  · rw [show interB c = true from decide_eq_true h]; exact inter_true c w h.1 h.2
  · rw [show interB c = false from decide_eq_false h]
    rcases (by omega : c < 32 ∨ (32 ≤ c ∧ 47 < c)) with h1 | ⟨h1, h2⟩
    · clear h
      go_enter Tryd.func58, Tryd.ntmps58
      go_wp2_with fail
      go_ret
      exact ⟨rfl, rfl⟩
    · have h3 : decide (c ≤ 47) = false := by simp; omega
      clear h
      go_enter Tryd.func58, Tryd.ntmps58
      go_wp2_with fail
      go_ret
      exact ⟨rfl, rfl⟩
theorem wide_true (x : Int) (w : World) (h : ¬ (0 ≤ x ∧ x ≤ 65535)) : Calls Tryd.prog 64 #[.int .i64 x] w fun e w' => e = .returned (.bool true) ∧ w = w' := by
  have hc : clipR x ≠ x := by have := clipR_in x; intro e; rw [e] at this; exact h this
  obtain ⟨y, hy⟩ : ∃ y, y = clipR x := ⟨_, rfl⟩
  have hcl := clip_any x
  rw [← hy] at hcl hc
  have hq : (x != y) = true := by simpa using fun e => hc e.symm
  clear h hc hy
  go_enter Tryd.func64, Tryd.ntmps64
  go_wp2_with (go_at_call 47; refine (hcl _).mono ?_; rintro e w' ⟨rfl, rfl⟩)
  go_ret
  exact ⟨rfl, rfl⟩
def SomeIdx (w : World) (e : Ending) (w' : World) : Prop := ∃ k : Nat, k < 1000 ∧ e = .returned (.int .i64 k) ∧ w = w'
set_option maxRecDepth 100000 in
set_option maxHeartbeats 1000000 in
theorem index_some {w : World} {v : Value} {l : List Int} (h : HasRow w 3 v l.length (icells l)) (h30 : l.length ≤ 30) (hl : ∃ x ∈ l, ¬ (0 ≤ x ∧ x ≤ 65535)) :
    Calls Tryd.prog 71 #[v, .func (.func 64) #[] #[]] w (SomeIdx w) := by
  obtain ⟨a1, c1, rfl⟩ := h.form
  have HB := Lib.hid hl
  clear hl
  go_enter Tryd.func71, Tryd.ntmps71
  go_wp2_with fail
  go_loop [8] (fun i => ∃ k : Nat, k ≤ l.length ∧ i = .int .i64 k ∧ ∀ x ∈ l.take k, 0 ≤ x ∧ x ≤ 65535) (fun i => l.length - (intOf i).toNat)
  case atStart => exact ⟨0, Nat.zero_le _, rfl, by simp⟩
  case round =>
    obtain ⟨k, hk, rfl, hall⟩ := hrel
    by_cases hlt : k < l.length
    · obtain ⟨g1, p1, u1, hv1, hu1, hc1⟩ := h.at_ hlt
      injection hv1 with e1 e2 e3
      subst e1
      have hu := icells_at hu1
      subst hu
      obtain ⟨x, hxd⟩ : ∃ x, x = l.getD k 0 := ⟨_, rfl⟩
      have hxk : l[k]? = some x := by rw [hxd, List.getD, List.getElem?_eq_getElem hlt]; simp
      rw [← hxd] at hc1
      have hkn : (k : Int) < (l.length : Int) := by omega
      have k0 : (0 : Int) ≤ (k : Int) := by omega
      by_cases hx : 0 ≤ x ∧ x ≤ 65535
      · have HA := Lib.hid (show ∀ y ∈ l.take (k + 1), 0 ≤ y ∧ y ≤ 65535 by
          intro y hy
          rw [List.take_add_one, hxk] at hy
          rcases List.mem_append.1 hy with hy | hy
          · exact hall y hy
          · simp at hy; subst hy; exact hx)
        obtain ⟨hx1, hx2⟩ := hx
        clear hxd h hu1 e2 e3 hall hxk
        go_wp2_with (go_at_call 64; refine (wide_false x _ hx1 hx2).mono ?_; rintro e w' ⟨rfl, rfl⟩)
        go_round
        case rel => exact ⟨k + 1, by omega, by go_num, HA.out⟩
        case measure => simp [intOf]; omega
      · have hwt := wide_true x
        have HX := Lib.hid hx
        clear hxd h hu1 e2 e3 hall hxk hx
        go_wp2_with (go_at_call 64; refine (hwt _ HX.out).mono ?_; rintro e w' ⟨rfl, rfl⟩)
        go_ret
        exact ⟨k, by omega, rfl, rfl⟩
    · exfalso
      obtain ⟨x, hx, hn⟩ := HB.out
      rw [List.take_of_length_le (by omega)] at hall
      exact hn (hall x hx)
set_option maxHeartbeats 1000000 in
theorem contains_some {w : World} {v : Value} {l : List Int} (h : HasRow w 3 v l.length (icells l)) (h30 : l.length ≤ 30) (hl : ∃ x ∈ l, ¬ (0 ≤ x ∧ x ≤ 65535)) :
    Calls Tryd.prog 65 #[v, .func (.func 64) #[] #[]] w fun e w' => e = .returned (.bool true) ∧ w = w' := by
  have hi := index_some h h30 hl
  clear h hl
  go_enter Tryd.func65, Tryd.ntmps65
  go_wp2_with (go_at_call 71; refine hi.mono ?_; rintro e w' ⟨k, hk, rfl, rfl⟩; have hk0 : (0 : Int) ≤ (k : Int) := by omega)
  go_ret
  exact ⟨rfl, rfl⟩
def Great (ps l d : List Int) : Prop := 3 < l.length ∨ 30 < ps.length ∨ 4096 < d.length ∨ ∃ x ∈ ps, ¬ (0 ≤ x ∧ x ≤ 65535)
set_option maxHeartbeats 1000000 in
set_option maxRecDepth 100000 in
theorem great_true {w : World} {k c m : Int} {ps l d : List Int} {qp qd : Value} (hG : Great ps l d) (h1 : HasRow w 3 qp ps.length (icells ps)) (h2 : HasRow w 5 qd d.length (bcells d)) :
    Calls Tryd.prog 56 #[.agg #[.int .i64 k, .int .u8 c, .int .u8 m, qp, .string (strOf l), qd]] w fun e w' => e = .returned (.bool true) ∧ Gr w w' := by
  obtain ⟨a1, c1, rfl⟩ := h1.form
  obtain ⟨a2, c2, rfl⟩ := h2.form
  have hs := strOf_size' l
  have hg := (Gr.refl w).alloc (.cells #[.int .i64 k, .int .u8 c, .int .u8 m, .slice a1 ps.length c1, .string (strOf l), .slice a2 d.length c2] 34)
  have hc := fun h30 hb => contains_some (h1.gr hg) h30 hb
  obtain ⟨s, hsd⟩ : ∃ s, s = strOf l := ⟨_, rfl⟩
  rw [← hsd] at hs hc hg ⊢
  unfold Great at hG
  rw [← hs] at hG
  clear hs hsd h1 h2
  by_cases q1 : 3 < s.size
  · have q1' : decide (3 < (s.size : Int)) = true := by simp; omega
    clear hG hc
    go_enter Tryd.func56, Tryd.ntmps56
    go_wp2_with fail
    go_ret
    exact ⟨rfl, hg⟩
  · have q1' : decide (3 < (s.size : Int)) = false := by simp; omega
    by_cases q2 : 30 < ps.length
    · have q2' : decide (30 < (ps.length : Int)) = true := by simp; omega
      clear hG hc
      go_enter Tryd.func56, Tryd.ntmps56
      go_wp2_with fail
      go_ret
      exact ⟨rfl, hg⟩
    · have q2' : decide (30 < (ps.length : Int)) = false := by simp; omega
      by_cases q3 : 4096 < d.length
      · have q3' : decide (4096 < (d.length : Int)) = true := by simp; omega
        clear hG hc
        go_enter Tryd.func56, Tryd.ntmps56
        go_wp2_with fail
        go_ret
        exact ⟨rfl, hg⟩
      · have q3' : decide (4096 < (d.length : Int)) = false := by simp; omega
        have hc2 := hc (by omega) (by rcases hG with h | h | h | h <;> first | omega | exact h)
        clear hG hc
        go_enter Tryd.func56, Tryd.ntmps56
        go_wp2_with (go_at_call 65; refine hc2.mono ?_; rintro e w1 ⟨rfl, rfl⟩)
        go_ret
        exact ⟨rfl, hg⟩
end Go.Proofs.YtnnhaenmoifplaaDoor
