/-
  A token that can't be is refused: token.Check, walked kind by kind.
-/
import Derived.Test.YtnnhaenmoifplaaDoorZPdU
import Derived.Test.YtnnhaenmoifplaaDoorZTkI
namespace Go.Proofs.YtnnhaenmoifplaaDoor
set_option linter.unusedSimpArgs false
set_option linter.unusedVariables false
open Go.RowKit
set_option linter.unusedVariables false

def Checks3 (w : World) (k c m : Int) (l : List Int) (v1 v2 : Value) : Prop :=
  Calls Tryd.prog 48 #[.agg #[.int .i64 k, .int .u8 c, .int .u8 m, v1, .string (strOf l), v2]] w fun e w' => e = .returned (.int .i64 3) ∧ Gr w w'
/-- Where the look at the intermediates stands. -/
def IAt (B : Bool) (l : List Int) (pos : Nat) (b : Bool) : Prop := b = true → B = true ∧ ∀ j, j < pos → ∀ x, l[j]? = some x → 32 ≤ x ∧ x ≤ 47
def DAt (b1 : Bool) (d : List Int) (j : Nat) (b : Bool) : Prop := b = true → b1 = true ∧ ∀ x ∈ d.take j, dataOk x = true
theorem IAt.no {B : Bool} {l : List Int} {p : Nat} : IAt B l p false := fun h => by cases h
theorem DAt.no {B : Bool} {l : List Int} {p : Nat} : DAt B l p false := fun h => by cases h
theorem IAt.step {B : Bool} {l : List Int} {pos : Nat} {x : Int} (h : IAt B l pos true) (hx : l[pos]? = some x) : IAt B l (pos + 1) (interB x) := by
  intro hb
  obtain ⟨h1, h2⟩ := h rfl
  refine ⟨h1, fun j hj y hy => ?_⟩
  by_cases e : j = pos
  · subst e; rw [hx] at hy; injection hy with hy; subst hy; exact of_decide_eq_true hb
  · exact h2 j (by omega) y hy
theorem DAt.step {B : Bool} {d : List Int} {j : Nat} {x : Int} (h : DAt B d j true) (hx : d[j]? = some x) : DAt B d (j + 1) (dataOk x) := by
  intro hb
  obtain ⟨h1, h2⟩ := h rfl
  refine ⟨h1, fun y hy => ?_⟩
  rw [List.take_add_one, hx] at hy
  rcases List.mem_append.1 hy with hy | hy
  · exact h2 y hy
  · simp at hy; subst hy; exact hb
theorem inter_high {r : Nat} (h : 128 ≤ r) : interB (r : Int) = false := decide_eq_false (by omega)

set_option maxRecDepth 100000 in
set_option maxHeartbeats 2000000 in
theorem bad_1 {w : World} {c m : Int} {l d : List Int} {a1 a2 : Option Addr} {np c1 nd c2 : Nat} {B : Bool} (hr0 : ∀ c ∈ l, 0 ≤ c ∧ c < 256) (hl3 : l.length ≤ 3) (hd4 : d.length ≤ 4096) (hnd : nd = d.length) (hr : HasRow w 5 (.slice a2 nd c2) nd (bcells d))
    (hgr : ∀ w', Gr w w' → Calls Tryd.prog 56 #[.agg #[.int .i64 1, .int .u8 c, .int .u8 m, .slice a1 np c1, .string (strOf l), .slice a2 nd c2]] w' fun e w2 => e = .returned (.bool false) ∧ Gr w' w2)
    (hcd : ∀ w', Gr w w' → CodeIs w' 1 c m (strOf l) (.slice a1 np c1) (.slice a2 nd c2) B)
    (hbad : (m ≠ 0 ∧ inB m 60 63 = false) ∨ B = false ∨ (∃ x ∈ l, ¬ (32 ≤ x ∧ x ≤ 47)) ∨ (∃ x ∈ d, dataOk x = false) ∨ (m ≠ 0 ∨ np ≠ 0 ∨ l ≠ [] ∨ nd ≠ 0)) : Checks3 w 1 c m l (.slice a1 np c1) (.slice a2 nd c2) := by
  unfold CodeIs at hcd
  have hsz := strOf_size l
  have HS : Hid (∀ k (hk : k < (strOf l).size), ∃ x, l[k]? = some x ∧ (((strOf l)[k]'hk).toNat : Int) = x) := Lib.hid fun k hk => strOf_at hr0 hk
  have HN := Lib.hid hnd
  have HBAD := Lib.hid hbad
  have HBO : Hid ((m ≠ 0 ∨ np ≠ 0 ∨ l ≠ [] ∨ nd ≠ 0) → ∀ w', Calls Tryd.prog 61 #[.agg #[.int .i64 1, .int .u8 c, .int .u8 m, .slice a1 np c1, .string (strOf l), .slice a2 nd c2]] w' fun e w2 => e = .returned (.bool false) ∧ Gr w' w2) := Lib.hid fun h w' => bare_off _ _ _ _ _ _ _ _ _ _ _ (h.elim (fun h => .inl h) (fun h => h.elim (fun h => .inr (.inl h)) (fun h => h.elim (fun h => .inr (.inr (.inl h))) (fun h => .inr (.inr (.inr h))))))
  obtain ⟨s, hsd⟩ : ∃ s, s = strOf l := ⟨_, rfl⟩
  rw [← hsd] at hsz hgr hcd HS
  rw [← hsd] at HBO
  unfold Checks3
  rw [← hsd]
  have hss : s.size ≤ 3 := by omega
  have hnd4 : nd ≤ 4096 := by omega
  have HSZ := Lib.hid hsz
  clear hr0 hl3 hd4 hnd hsd hsz hbad
  have hw0 := (Gr.refl w).alloc (.cells #[.int .i64 1, .int .u8 c, .int .u8 m, .slice a1 np c1, .string s, .slice a2 nd c2] 34)
  have hb0 := heap_alloc_new w (.cells #[.int .i64 1, .int .u8 c, .int .u8 m, .slice a1 np c1, .string s, .slice a2 nd c2] 34)
  have hTl := blk_lt hb0
  go_enter Tryd.func48, Tryd.ntmps48
  go_wp2_with (first
    | (go_at_call 56; refine (hgr _ hw0).mono ?_; rintro e w2 ⟨rfl, hg2⟩; have hw2 := hw0.trans hg2; obtain ⟨t0, t1, t2, t3, t4, t5, tf⟩ := cells6 (hg2.blk hb0))
    | (go_at_call 57; refine (hcd _ hw2).mono ?_; rintro e w3 ⟨rfl, hg3⟩; have hw3 := hw2.trans hg3; obtain ⟨y0, y1, y2, y3, y4, y5, yf⟩ := cells6 ((hg2.trans hg3).blk hb0)))
  go_loopw [3] (fun g wr => ∃ (pos : Nat) (b : Bool), wr = w3.iter s pos ∧ g = .bool b ∧ IAt B l pos b) (fun _ wr => s.size - wr.iterPos w3.heap.size)
  case atStart => exact ⟨0, B, rfl, rfl, fun h => ⟨h, fun j hj => by omega⟩⟩
  case round =>
    obtain ⟨pos, b, rfl, rfl, hI⟩ := hrel
    have HI := Lib.hid hI; clear hI
    have hgI : Gr w3 (w3.iter s pos) := (Gr.refl w3).alloc _
    obtain ⟨v0, v1, v2, v3, v4, v5, vf⟩ := cells6 (((hg2.trans hg3).trans hgI).blk hb0)
    have hw4 := hw3.trans hgI
    have hlt4 := blk_lt (((hg2.trans hg3).trans hgI).blk hb0)
    clear t0 t1 t2 t3 t4 t5 tf y0 y1 y2 y3 y4 y5 yf
    by_cases hp : pos < s.size
    · by_cases ha : (s[pos]'hp).toNat < 128
      · obtain ⟨x, hx, hxs⟩ := HS.out pos hp
        have hnx : ∀ ty, (Instr.next (.pointer (some ⟨w3.heap.size, 0, none⟩)) true ty).run Tryd.prog (w3.iter s pos) = .ok (.tuple #[.bool true, .int .i64 pos, .int .i32 x]) (w3.iter s (pos + 1)) := fun ty => by
          rw [← hxs]; exact run_next_ascii w3 s pos ty hp ha
        have HX := Lib.hid hx
        clear hx hxs ha
        cases b
        · go_wp2_with fail
          go_roundw
          case rel => exact ⟨pos + 1, false, rfl, rfl, IAt.no⟩
          case measure => simp; omega
        · go_wp2_with (go_at_call 58; refine (inter_any x _).mono ?_; rintro e w5 ⟨rfl, rfl⟩)
          go_roundw
          case rel => exact ⟨pos + 1, _, rfl, rfl, HI.out.step HX.out⟩
          case measure => simp; omega
      · obtain ⟨r, n, hrn, hr128, hn1⟩ : ∃ r n : Nat, (∀ ty, (Instr.next (.pointer (some ⟨w3.heap.size, 0, none⟩)) true ty).run Tryd.prog (w3.iter s pos) = .ok (.tuple #[.bool true, .int .i64 pos, .int .i32 r]) (w3.iter s (pos + n))) ∧ 128 ≤ r ∧ 1 ≤ n :=
          ⟨_, _, fun ty => run_next_any w3 s pos ty hp, (decode_high s pos hp (by omega)).1, (decode_high s pos hp (by omega)).2⟩
        have hih := inter_high hr128
        have hin := fun w => inter_any (r : Int) w
        rw [hih] at hin
        clear ha hih hr128
        cases b
        · go_wp2_with fail
          go_roundw
          case rel => exact ⟨pos + n, false, rfl, rfl, IAt.no⟩
          case measure => simp; omega
        · go_wp2_with (go_at_call 58; refine (hin _).mono ?_; rintro e w5 ⟨rfl, rfl⟩)
          go_roundw
          case rel => exact ⟨pos + n, false, rfl, rfl, IAt.no⟩
          case measure => simp; omega
    · have hnx : ∀ ty, (Instr.next (.pointer (some ⟨w3.heap.size, 0, none⟩)) true ty).run Tryd.prog (w3.iter s pos) = _ := fun ty => run_next_end w3 s pos ty hp
      go_wp2_with fail
      go_loop [3, 35] (fun g i => ∃ (j : Nat) (b2 : Bool), j ≤ nd ∧ i = .int .i64 j ∧ g = .bool b2 ∧ DAt b d j b2) (fun _ i => nd - (intOf i).toNat)
      case atStart => exact ⟨0, b, Nat.zero_le _, rfl, rfl, fun h => ⟨h, by simp⟩⟩
      case round =>
        obtain ⟨j, b2, hj, rfl, rfl, hD⟩ := hrel
        have HD := Lib.hid hD; clear hD
        by_cases hlt : j < nd
        · obtain ⟨g1, p1, u1, hv1, hu1, hc1⟩ := (hr.gr hw4).at_ hlt
          injection hv1 with e1 e2 e3
          subst e1
          have hu := bcells_at' hu1
          subst hu
          obtain ⟨x, hxd⟩ : ∃ x, x = d.getD j 0 := ⟨_, rfl⟩
          have HXD := Lib.hid (show d[j]? = some x by rw [hxd, List.getD, List.getElem?_eq_getElem (by have := HN.out; omega)]; simp)
          rw [← hxd] at hc1
          have hjn : (j : Int) < (nd : Int) := by omega
          have j0 : (0 : Int) ≤ (j : Int) := by omega
          clear hxd hr hu1 e2 e3 hnx hgr hcd
          cases b2
          · go_wp2_with fail
            go_round
            case rel => exact ⟨j + 1, false, by omega, by go_num, rfl, DAt.no⟩
            case measure => simp [intOf]; omega
          · go_wp2_with (go_at_call 59; refine (data_any x _).mono ?_; rintro e w6 ⟨rfl, rfl⟩)
            go_round
            case rel => exact ⟨j + 1, _, by omega, by go_num, rfl, HD.out.step HXD.out⟩
            case measure => simp [intOf]; omega
        · have hjn : ¬ (j : Int) < (nd : Int) := by omega
          have HJ := Lib.hid (show j = nd by omega)
          have HPZ := Lib.hid hp
          have hwz := hw4
          clear hnx hgr hcd hr hp
          have hin := fun w => in_any m 60 63 w
          cases b2
          · by_cases hm : m = 0
            · subst hm
              go_wp2_with fail
              go_ret
              exact ⟨rfl, by (repeat (first | with_reducible exact Gr.refl _ | with_reducible assumption | with_reducible refine Gr.setCell ?_ (by simp; try omega) _ | with_reducible refine Gr.alloc ?_ _ | with_reducible refine Gr.drew ?_ | with_reducible refine Gr.drewN ?_ _ | with_reducible refine Gr.trans ?_ (by assumption)))⟩
            · have hmz : (m != 0) = true := by simpa using hm
              cases hi : inB m 60 63
              all_goals
                rw [hi] at hin
                go_wp2_with (go_at_call 60; refine (hin _).mono ?_; rintro e w8 ⟨rfl, rfl⟩)
                go_ret
                exact ⟨rfl, by (repeat (first | with_reducible exact Gr.refl _ | with_reducible assumption | with_reducible refine Gr.setCell ?_ (by simp; try omega) _ | with_reducible refine Gr.alloc ?_ _ | with_reducible refine Gr.drew ?_ | with_reducible refine Gr.drewN ?_ _ | with_reducible refine Gr.trans ?_ (by assumption)))⟩
          · have HG := Lib.hid (show b = true ∧ ∀ x ∈ d, dataOk x = true by
              obtain ⟨h1, h2⟩ := HD.out rfl
              exact ⟨h1, by rw [List.take_of_length_le (by have := HN.out; have := HJ.out; omega)] at h2; exact h2⟩)
            have HG2 := Lib.hid (show B = true ∧ ∀ x ∈ l, 32 ≤ x ∧ x ≤ 47 by
              obtain ⟨h1, h2⟩ := HI.out HG.out.1
              refine ⟨h1, fun x hx => ?_⟩
              obtain ⟨i, hi⟩ := List.getElem?_of_mem hx
              have hil := (List.getElem?_eq_some_iff.1 hi).1
              exact h2 i (by have := HPZ.out; have := HSZ.out; omega) x hi)
            have HR := Lib.hid (show (m ≠ 0 ∧ inB m 60 63 = false) ∨ (m ≠ 0 ∨ np ≠ 0 ∨ l ≠ [] ∨ nd ≠ 0) by
              rcases HBAD.out with h | h | ⟨x, hx, h⟩ | ⟨x, hx, h⟩ | h
              · exact .inl h
              · rw [HG2.out.1] at h; cases h
              · exact absurd (HG2.out.2 x hx) h
              · rw [HG.out.2 x hx] at h; cases h
              · exact .inr h)
            by_cases hm : m = 0
            · subst hm
              have HBR := Lib.hid (HBO.out (by rcases HR.out with h | h
                                               · exact absurd rfl h.1
                                               · exact h))
              go_wp2_with (first
                | (go_at_call 60; refine (hin _).mono ?_; rintro e w8 ⟨rfl, rfl⟩)
                | (go_at_call 61; refine (HBR.out _).mono ?_; rintro e w7 ⟨rfl, hg7⟩))
              go_ret
              refine ⟨rfl, Gr.trans ?_ hg7⟩
              (repeat (first | with_reducible exact Gr.refl _ | with_reducible assumption | with_reducible refine Gr.setCell ?_ (by simp; try omega) _ | with_reducible refine Gr.alloc ?_ _ | with_reducible refine Gr.drew ?_ | with_reducible refine Gr.drewN ?_ _ | with_reducible refine Gr.trans ?_ (by assumption)))
            · have hmz : (m != 0) = true := by simpa using hm
              cases hi : inB m 60 63
              · rw [hi] at hin
                go_wp2_with (go_at_call 60; refine (hin _).mono ?_; rintro e w8 ⟨rfl, rfl⟩)
                go_ret
                exact ⟨rfl, by (repeat (first | with_reducible exact Gr.refl _ | with_reducible assumption | with_reducible refine Gr.setCell ?_ (by simp; try omega) _ | with_reducible refine Gr.alloc ?_ _ | with_reducible refine Gr.drew ?_ | with_reducible refine Gr.drewN ?_ _ | with_reducible refine Gr.trans ?_ (by assumption)))⟩
              · rw [hi] at hin
                have HBR := Lib.hid (HBO.out (by rcases HR.out with h | h
                                                 · rw [h.2] at hi; cases hi
                                                 · exact h))
                go_wp2_with (first
                  | (go_at_call 60; refine (hin _).mono ?_; rintro e w8 ⟨rfl, rfl⟩)
                  | (go_at_call 61; refine (HBR.out _).mono ?_; rintro e w7 ⟨rfl, hg7⟩))
                go_ret
                refine ⟨rfl, Gr.trans ?_ hg7⟩
                (repeat (first | with_reducible exact Gr.refl _ | with_reducible assumption | with_reducible refine Gr.setCell ?_ (by simp; try omega) _ | with_reducible refine Gr.alloc ?_ _ | with_reducible refine Gr.drew ?_ | with_reducible refine Gr.drewN ?_ _ | with_reducible refine Gr.trans ?_ (by assumption)))

set_option maxRecDepth 100000 in
set_option maxHeartbeats 2000000 in
theorem bad_2 {w : World} {c m : Int} {l d : List Int} {a1 a2 : Option Addr} {np c1 nd c2 : Nat} {B : Bool} (hr0 : ∀ c ∈ l, 0 ≤ c ∧ c < 256) (hl3 : l.length ≤ 3) (hd4 : d.length ≤ 4096) (hnd : nd = d.length) (hr : HasRow w 5 (.slice a2 nd c2) nd (bcells d))
    (hgr : ∀ w', Gr w w' → Calls Tryd.prog 56 #[.agg #[.int .i64 2, .int .u8 c, .int .u8 m, .slice a1 np c1, .string (strOf l), .slice a2 nd c2]] w' fun e w2 => e = .returned (.bool false) ∧ Gr w' w2)
    (hcd : ∀ w', Gr w w' → CodeIs w' 2 c m (strOf l) (.slice a1 np c1) (.slice a2 nd c2) B)
    (hbad : (m ≠ 0 ∧ inB m 60 63 = false) ∨ B = false ∨ (∃ x ∈ l, ¬ (32 ≤ x ∧ x ≤ 47)) ∨ (∃ x ∈ d, dataOk x = false) ∨ (m ≠ 0 ∨ np ≠ 0 ∨ l ≠ [] ∨ nd ≠ 0)) : Checks3 w 2 c m l (.slice a1 np c1) (.slice a2 nd c2) := by
  unfold CodeIs at hcd
  have hsz := strOf_size l
  have HS : Hid (∀ k (hk : k < (strOf l).size), ∃ x, l[k]? = some x ∧ (((strOf l)[k]'hk).toNat : Int) = x) := Lib.hid fun k hk => strOf_at hr0 hk
  have HN := Lib.hid hnd
  have HBAD := Lib.hid hbad
  have HBO : Hid ((m ≠ 0 ∨ np ≠ 0 ∨ l ≠ [] ∨ nd ≠ 0) → ∀ w', Calls Tryd.prog 61 #[.agg #[.int .i64 2, .int .u8 c, .int .u8 m, .slice a1 np c1, .string (strOf l), .slice a2 nd c2]] w' fun e w2 => e = .returned (.bool false) ∧ Gr w' w2) := Lib.hid fun h w' => bare_off _ _ _ _ _ _ _ _ _ _ _ (h.elim (fun h => .inl h) (fun h => h.elim (fun h => .inr (.inl h)) (fun h => h.elim (fun h => .inr (.inr (.inl h))) (fun h => .inr (.inr (.inr h))))))
  obtain ⟨s, hsd⟩ : ∃ s, s = strOf l := ⟨_, rfl⟩
  rw [← hsd] at hsz hgr hcd HS
  rw [← hsd] at HBO
  unfold Checks3
  rw [← hsd]
  have hss : s.size ≤ 3 := by omega
  have hnd4 : nd ≤ 4096 := by omega
  have HSZ := Lib.hid hsz
  clear hr0 hl3 hd4 hnd hsd hsz hbad
  have hw0 := (Gr.refl w).alloc (.cells #[.int .i64 2, .int .u8 c, .int .u8 m, .slice a1 np c1, .string s, .slice a2 nd c2] 34)
  have hb0 := heap_alloc_new w (.cells #[.int .i64 2, .int .u8 c, .int .u8 m, .slice a1 np c1, .string s, .slice a2 nd c2] 34)
  have hTl := blk_lt hb0
  go_enter Tryd.func48, Tryd.ntmps48
  go_wp2_with (first
    | (go_at_call 56; refine (hgr _ hw0).mono ?_; rintro e w2 ⟨rfl, hg2⟩; have hw2 := hw0.trans hg2; obtain ⟨t0, t1, t2, t3, t4, t5, tf⟩ := cells6 (hg2.blk hb0))
    | (go_at_call 57; refine (hcd _ hw2).mono ?_; rintro e w3 ⟨rfl, hg3⟩; have hw3 := hw2.trans hg3; obtain ⟨y0, y1, y2, y3, y4, y5, yf⟩ := cells6 ((hg2.trans hg3).blk hb0)))
  go_loopw [3] (fun g wr => ∃ (pos : Nat) (b : Bool), wr = w3.iter s pos ∧ g = .bool b ∧ IAt B l pos b) (fun _ wr => s.size - wr.iterPos w3.heap.size)
  case atStart => exact ⟨0, B, rfl, rfl, fun h => ⟨h, fun j hj => by omega⟩⟩
  case round =>
    obtain ⟨pos, b, rfl, rfl, hI⟩ := hrel
    have HI := Lib.hid hI; clear hI
    have hgI : Gr w3 (w3.iter s pos) := (Gr.refl w3).alloc _
    obtain ⟨v0, v1, v2, v3, v4, v5, vf⟩ := cells6 (((hg2.trans hg3).trans hgI).blk hb0)
    have hw4 := hw3.trans hgI
    have hlt4 := blk_lt (((hg2.trans hg3).trans hgI).blk hb0)
    clear t0 t1 t2 t3 t4 t5 tf y0 y1 y2 y3 y4 y5 yf
    by_cases hp : pos < s.size
    · by_cases ha : (s[pos]'hp).toNat < 128
      · obtain ⟨x, hx, hxs⟩ := HS.out pos hp
        have hnx : ∀ ty, (Instr.next (.pointer (some ⟨w3.heap.size, 0, none⟩)) true ty).run Tryd.prog (w3.iter s pos) = .ok (.tuple #[.bool true, .int .i64 pos, .int .i32 x]) (w3.iter s (pos + 1)) := fun ty => by
          rw [← hxs]; exact run_next_ascii w3 s pos ty hp ha
        have HX := Lib.hid hx
        clear hx hxs ha
        cases b
        · go_wp2_with fail
          go_roundw
          case rel => exact ⟨pos + 1, false, rfl, rfl, IAt.no⟩
          case measure => simp; omega
        · go_wp2_with (go_at_call 58; refine (inter_any x _).mono ?_; rintro e w5 ⟨rfl, rfl⟩)
          go_roundw
          case rel => exact ⟨pos + 1, _, rfl, rfl, HI.out.step HX.out⟩
          case measure => simp; omega
      · obtain ⟨r, n, hrn, hr128, hn1⟩ : ∃ r n : Nat, (∀ ty, (Instr.next (.pointer (some ⟨w3.heap.size, 0, none⟩)) true ty).run Tryd.prog (w3.iter s pos) = .ok (.tuple #[.bool true, .int .i64 pos, .int .i32 r]) (w3.iter s (pos + n))) ∧ 128 ≤ r ∧ 1 ≤ n :=
          ⟨_, _, fun ty => run_next_any w3 s pos ty hp, (decode_high s pos hp (by omega)).1, (decode_high s pos hp (by omega)).2⟩
        have hih := inter_high hr128
        have hin := fun w => inter_any (r : Int) w
        rw [hih] at hin
        clear ha hih hr128
        cases b
        · go_wp2_with fail
          go_roundw
          case rel => exact ⟨pos + n, false, rfl, rfl, IAt.no⟩
          case measure => simp; omega
        · go_wp2_with (go_at_call 58; refine (hin _).mono ?_; rintro e w5 ⟨rfl, rfl⟩)
          go_roundw
          case rel => exact ⟨pos + n, false, rfl, rfl, IAt.no⟩
          case measure => simp; omega
    · have hnx : ∀ ty, (Instr.next (.pointer (some ⟨w3.heap.size, 0, none⟩)) true ty).run Tryd.prog (w3.iter s pos) = _ := fun ty => run_next_end w3 s pos ty hp
      go_wp2_with fail
      go_loop [3, 35] (fun g i => ∃ (j : Nat) (b2 : Bool), j ≤ nd ∧ i = .int .i64 j ∧ g = .bool b2 ∧ DAt b d j b2) (fun _ i => nd - (intOf i).toNat)
      case atStart => exact ⟨0, b, Nat.zero_le _, rfl, rfl, fun h => ⟨h, by simp⟩⟩
      case round =>
        obtain ⟨j, b2, hj, rfl, rfl, hD⟩ := hrel
        have HD := Lib.hid hD; clear hD
        by_cases hlt : j < nd
        · obtain ⟨g1, p1, u1, hv1, hu1, hc1⟩ := (hr.gr hw4).at_ hlt
          injection hv1 with e1 e2 e3
          subst e1
          have hu := bcells_at' hu1
          subst hu
          obtain ⟨x, hxd⟩ : ∃ x, x = d.getD j 0 := ⟨_, rfl⟩
          have HXD := Lib.hid (show d[j]? = some x by rw [hxd, List.getD, List.getElem?_eq_getElem (by have := HN.out; omega)]; simp)
          rw [← hxd] at hc1
          have hjn : (j : Int) < (nd : Int) := by omega
          have j0 : (0 : Int) ≤ (j : Int) := by omega
          clear hxd hr hu1 e2 e3 hnx hgr hcd
          cases b2
          · go_wp2_with fail
            go_round
            case rel => exact ⟨j + 1, false, by omega, by go_num, rfl, DAt.no⟩
            case measure => simp [intOf]; omega
          · go_wp2_with (go_at_call 59; refine (data_any x _).mono ?_; rintro e w6 ⟨rfl, rfl⟩)
            go_round
            case rel => exact ⟨j + 1, _, by omega, by go_num, rfl, HD.out.step HXD.out⟩
            case measure => simp [intOf]; omega
        · have hjn : ¬ (j : Int) < (nd : Int) := by omega
          have HJ := Lib.hid (show j = nd by omega)
          have HPZ := Lib.hid hp
          have hwz := hw4
          clear hnx hgr hcd hr hp
          have hin := fun w => in_any m 60 63 w
          cases b2
          · by_cases hm : m = 0
            · subst hm
              go_wp2_with fail
              go_ret
              exact ⟨rfl, by (repeat (first | with_reducible exact Gr.refl _ | with_reducible assumption | with_reducible refine Gr.setCell ?_ (by simp; try omega) _ | with_reducible refine Gr.alloc ?_ _ | with_reducible refine Gr.drew ?_ | with_reducible refine Gr.drewN ?_ _ | with_reducible refine Gr.trans ?_ (by assumption)))⟩
            · have hmz : (m != 0) = true := by simpa using hm
              cases hi : inB m 60 63
              all_goals
                rw [hi] at hin
                go_wp2_with (go_at_call 60; refine (hin _).mono ?_; rintro e w8 ⟨rfl, rfl⟩)
                go_ret
                exact ⟨rfl, by (repeat (first | with_reducible exact Gr.refl _ | with_reducible assumption | with_reducible refine Gr.setCell ?_ (by simp; try omega) _ | with_reducible refine Gr.alloc ?_ _ | with_reducible refine Gr.drew ?_ | with_reducible refine Gr.drewN ?_ _ | with_reducible refine Gr.trans ?_ (by assumption)))⟩
          · have HG := Lib.hid (show b = true ∧ ∀ x ∈ d, dataOk x = true by
              obtain ⟨h1, h2⟩ := HD.out rfl
              exact ⟨h1, by rw [List.take_of_length_le (by have := HN.out; have := HJ.out; omega)] at h2; exact h2⟩)
            have HG2 := Lib.hid (show B = true ∧ ∀ x ∈ l, 32 ≤ x ∧ x ≤ 47 by
              obtain ⟨h1, h2⟩ := HI.out HG.out.1
              refine ⟨h1, fun x hx => ?_⟩
              obtain ⟨i, hi⟩ := List.getElem?_of_mem hx
              have hil := (List.getElem?_eq_some_iff.1 hi).1
              exact h2 i (by have := HPZ.out; have := HSZ.out; omega) x hi)
            have HR := Lib.hid (show (m ≠ 0 ∧ inB m 60 63 = false) ∨ (m ≠ 0 ∨ np ≠ 0 ∨ l ≠ [] ∨ nd ≠ 0) by
              rcases HBAD.out with h | h | ⟨x, hx, h⟩ | ⟨x, hx, h⟩ | h
              · exact .inl h
              · rw [HG2.out.1] at h; cases h
              · exact absurd (HG2.out.2 x hx) h
              · rw [HG.out.2 x hx] at h; cases h
              · exact .inr h)
            by_cases hm : m = 0
            · subst hm
              have HBR := Lib.hid (HBO.out (by rcases HR.out with h | h
                                               · exact absurd rfl h.1
                                               · exact h))
              go_wp2_with (first
                | (go_at_call 60; refine (hin _).mono ?_; rintro e w8 ⟨rfl, rfl⟩)
                | (go_at_call 61; refine (HBR.out _).mono ?_; rintro e w7 ⟨rfl, hg7⟩))
              go_ret
              refine ⟨rfl, Gr.trans ?_ hg7⟩
              (repeat (first | with_reducible exact Gr.refl _ | with_reducible assumption | with_reducible refine Gr.setCell ?_ (by simp; try omega) _ | with_reducible refine Gr.alloc ?_ _ | with_reducible refine Gr.drew ?_ | with_reducible refine Gr.drewN ?_ _ | with_reducible refine Gr.trans ?_ (by assumption)))
            · have hmz : (m != 0) = true := by simpa using hm
              cases hi : inB m 60 63
              · rw [hi] at hin
                go_wp2_with (go_at_call 60; refine (hin _).mono ?_; rintro e w8 ⟨rfl, rfl⟩)
                go_ret
                exact ⟨rfl, by (repeat (first | with_reducible exact Gr.refl _ | with_reducible assumption | with_reducible refine Gr.setCell ?_ (by simp; try omega) _ | with_reducible refine Gr.alloc ?_ _ | with_reducible refine Gr.drew ?_ | with_reducible refine Gr.drewN ?_ _ | with_reducible refine Gr.trans ?_ (by assumption)))⟩
              · rw [hi] at hin
                have HBR := Lib.hid (HBO.out (by rcases HR.out with h | h
                                                 · rw [h.2] at hi; cases hi
                                                 · exact h))
                go_wp2_with (first
                  | (go_at_call 60; refine (hin _).mono ?_; rintro e w8 ⟨rfl, rfl⟩)
                  | (go_at_call 61; refine (HBR.out _).mono ?_; rintro e w7 ⟨rfl, hg7⟩))
                go_ret
                refine ⟨rfl, Gr.trans ?_ hg7⟩
                (repeat (first | with_reducible exact Gr.refl _ | with_reducible assumption | with_reducible refine Gr.setCell ?_ (by simp; try omega) _ | with_reducible refine Gr.alloc ?_ _ | with_reducible refine Gr.drew ?_ | with_reducible refine Gr.drewN ?_ _ | with_reducible refine Gr.trans ?_ (by assumption)))

set_option maxRecDepth 100000 in
set_option maxHeartbeats 2000000 in
theorem bad_3 {w : World} {c m : Int} {l d : List Int} {a1 a2 : Option Addr} {np c1 nd c2 : Nat} {B : Bool} (hr0 : ∀ c ∈ l, 0 ≤ c ∧ c < 256) (hl3 : l.length ≤ 3) (hd4 : d.length ≤ 4096) (hnd : nd = d.length) (hr : HasRow w 5 (.slice a2 nd c2) nd (bcells d))
    (hgr : ∀ w', Gr w w' → Calls Tryd.prog 56 #[.agg #[.int .i64 3, .int .u8 c, .int .u8 m, .slice a1 np c1, .string (strOf l), .slice a2 nd c2]] w' fun e w2 => e = .returned (.bool false) ∧ Gr w' w2)
    (hcd : ∀ w', Gr w w' → CodeIs w' 3 c m (strOf l) (.slice a1 np c1) (.slice a2 nd c2) B)
    (hbad : (m ≠ 0 ∧ inB m 60 63 = false) ∨ B = false ∨ (∃ x ∈ l, ¬ (32 ≤ x ∧ x ≤ 47)) ∨ (∃ x ∈ d, dataOk x = false) ∨ (m ≠ 0 ∨ np ≠ 0 ∨ nd ≠ 0)) : Checks3 w 3 c m l (.slice a1 np c1) (.slice a2 nd c2) := by
  unfold CodeIs at hcd
  have hsz := strOf_size l
  have HS : Hid (∀ k (hk : k < (strOf l).size), ∃ x, l[k]? = some x ∧ (((strOf l)[k]'hk).toNat : Int) = x) := Lib.hid fun k hk => strOf_at hr0 hk
  have HN := Lib.hid hnd
  have HBAD := Lib.hid hbad
  have HBO : Hid ((m ≠ 0 ∨ np ≠ 0 ∨ nd ≠ 0) → ∀ w', Calls Tryd.prog 61 #[.agg #[.int .i64 3, .int .u8 c, .int .u8 m, .slice a1 np c1, .string (strOf []), .slice a2 nd c2]] w' fun e w2 => e = .returned (.bool false) ∧ Gr w' w2) := Lib.hid fun h w' => bare_off _ _ _ _ _ _ _ _ _ _ _ (h.elim (fun h => .inl h) (fun h => h.elim (fun h => .inr (.inl h)) (fun h => .inr (.inr (.inr h)))))
  obtain ⟨s, hsd⟩ : ∃ s, s = strOf l := ⟨_, rfl⟩
  rw [← hsd] at hsz hgr hcd HS
  unfold Checks3
  rw [← hsd]
  have hss : s.size ≤ 3 := by omega
  have hnd4 : nd ≤ 4096 := by omega
  have HSZ := Lib.hid hsz
  clear hr0 hl3 hd4 hnd hsd hsz hbad
  have hw0 := (Gr.refl w).alloc (.cells #[.int .i64 3, .int .u8 c, .int .u8 m, .slice a1 np c1, .string s, .slice a2 nd c2] 34)
  have hb0 := heap_alloc_new w (.cells #[.int .i64 3, .int .u8 c, .int .u8 m, .slice a1 np c1, .string s, .slice a2 nd c2] 34)
  have hTl := blk_lt hb0
  go_enter Tryd.func48, Tryd.ntmps48
  go_wp2_with (first
    | (go_at_call 56; refine (hgr _ hw0).mono ?_; rintro e w2 ⟨rfl, hg2⟩; have hw2 := hw0.trans hg2; obtain ⟨t0, t1, t2, t3, t4, t5, tf⟩ := cells6 (hg2.blk hb0))
    | (go_at_call 57; refine (hcd _ hw2).mono ?_; rintro e w3 ⟨rfl, hg3⟩; have hw3 := hw2.trans hg3; obtain ⟨y0, y1, y2, y3, y4, y5, yf⟩ := cells6 ((hg2.trans hg3).blk hb0)))
  go_loopw [3] (fun g wr => ∃ (pos : Nat) (b : Bool), wr = w3.iter s pos ∧ g = .bool b ∧ IAt B l pos b) (fun _ wr => s.size - wr.iterPos w3.heap.size)
  case atStart => exact ⟨0, B, rfl, rfl, fun h => ⟨h, fun j hj => by omega⟩⟩
  case round =>
    obtain ⟨pos, b, rfl, rfl, hI⟩ := hrel
    have HI := Lib.hid hI; clear hI
    have hgI : Gr w3 (w3.iter s pos) := (Gr.refl w3).alloc _
    obtain ⟨v0, v1, v2, v3, v4, v5, vf⟩ := cells6 (((hg2.trans hg3).trans hgI).blk hb0)
    have hw4 := hw3.trans hgI
    have hlt4 := blk_lt (((hg2.trans hg3).trans hgI).blk hb0)
    clear t0 t1 t2 t3 t4 t5 tf y0 y1 y2 y3 y4 y5 yf
    by_cases hp : pos < s.size
    · by_cases ha : (s[pos]'hp).toNat < 128
      · obtain ⟨x, hx, hxs⟩ := HS.out pos hp
        have hnx : ∀ ty, (Instr.next (.pointer (some ⟨w3.heap.size, 0, none⟩)) true ty).run Tryd.prog (w3.iter s pos) = .ok (.tuple #[.bool true, .int .i64 pos, .int .i32 x]) (w3.iter s (pos + 1)) := fun ty => by
          rw [← hxs]; exact run_next_ascii w3 s pos ty hp ha
        have HX := Lib.hid hx
        clear hx hxs ha
        cases b
        · go_wp2_with fail
          go_roundw
          case rel => exact ⟨pos + 1, false, rfl, rfl, IAt.no⟩
          case measure => simp; omega
        · go_wp2_with (go_at_call 58; refine (inter_any x _).mono ?_; rintro e w5 ⟨rfl, rfl⟩)
          go_roundw
          case rel => exact ⟨pos + 1, _, rfl, rfl, HI.out.step HX.out⟩
          case measure => simp; omega
      · obtain ⟨r, n, hrn, hr128, hn1⟩ : ∃ r n : Nat, (∀ ty, (Instr.next (.pointer (some ⟨w3.heap.size, 0, none⟩)) true ty).run Tryd.prog (w3.iter s pos) = .ok (.tuple #[.bool true, .int .i64 pos, .int .i32 r]) (w3.iter s (pos + n))) ∧ 128 ≤ r ∧ 1 ≤ n :=
          ⟨_, _, fun ty => run_next_any w3 s pos ty hp, (decode_high s pos hp (by omega)).1, (decode_high s pos hp (by omega)).2⟩
        have hih := inter_high hr128
        have hin := fun w => inter_any (r : Int) w
        rw [hih] at hin
        clear ha hih hr128
        cases b
        · go_wp2_with fail
          go_roundw
          case rel => exact ⟨pos + n, false, rfl, rfl, IAt.no⟩
          case measure => simp; omega
        · go_wp2_with (go_at_call 58; refine (hin _).mono ?_; rintro e w5 ⟨rfl, rfl⟩)
          go_roundw
          case rel => exact ⟨pos + n, false, rfl, rfl, IAt.no⟩
          case measure => simp; omega
    · have hnx : ∀ ty, (Instr.next (.pointer (some ⟨w3.heap.size, 0, none⟩)) true ty).run Tryd.prog (w3.iter s pos) = _ := fun ty => run_next_end w3 s pos ty hp
      go_wp2_with fail
      go_loop [3, 35] (fun g i => ∃ (j : Nat) (b2 : Bool), j ≤ nd ∧ i = .int .i64 j ∧ g = .bool b2 ∧ DAt b d j b2) (fun _ i => nd - (intOf i).toNat)
      case atStart => exact ⟨0, b, Nat.zero_le _, rfl, rfl, fun h => ⟨h, by simp⟩⟩
      case round =>
        obtain ⟨j, b2, hj, rfl, rfl, hD⟩ := hrel
        have HD := Lib.hid hD; clear hD
        by_cases hlt : j < nd
        · obtain ⟨g1, p1, u1, hv1, hu1, hc1⟩ := (hr.gr hw4).at_ hlt
          injection hv1 with e1 e2 e3
          subst e1
          have hu := bcells_at' hu1
          subst hu
          obtain ⟨x, hxd⟩ : ∃ x, x = d.getD j 0 := ⟨_, rfl⟩
          have HXD := Lib.hid (show d[j]? = some x by rw [hxd, List.getD, List.getElem?_eq_getElem (by have := HN.out; omega)]; simp)
          rw [← hxd] at hc1
          have hjn : (j : Int) < (nd : Int) := by omega
          have j0 : (0 : Int) ≤ (j : Int) := by omega
          clear hxd hr hu1 e2 e3 hnx hgr hcd
          cases b2
          · go_wp2_with fail
            go_round
            case rel => exact ⟨j + 1, false, by omega, by go_num, rfl, DAt.no⟩
            case measure => simp [intOf]; omega
          · go_wp2_with (go_at_call 59; refine (data_any x _).mono ?_; rintro e w6 ⟨rfl, rfl⟩)
            go_round
            case rel => exact ⟨j + 1, _, by omega, by go_num, rfl, HD.out.step HXD.out⟩
            case measure => simp [intOf]; omega
        · have hjn : ¬ (j : Int) < (nd : Int) := by omega
          have HJ := Lib.hid (show j = nd by omega)
          have HPZ := Lib.hid hp
          have hwz := hw4
          clear hnx hgr hcd hr hp
          have hin := fun w => in_any m 60 63 w
          cases b2
          · by_cases hm : m = 0
            · subst hm
              go_wp2_with fail
              go_ret
              exact ⟨rfl, by (repeat (first | with_reducible exact Gr.refl _ | with_reducible assumption | with_reducible refine Gr.setCell ?_ (by simp; try omega) _ | with_reducible refine Gr.alloc ?_ _ | with_reducible refine Gr.drew ?_ | with_reducible refine Gr.drewN ?_ _ | with_reducible refine Gr.trans ?_ (by assumption)))⟩
            · have hmz : (m != 0) = true := by simpa using hm
              cases hi : inB m 60 63
              all_goals
                rw [hi] at hin
                go_wp2_with (go_at_call 60; refine (hin _).mono ?_; rintro e w8 ⟨rfl, rfl⟩)
                go_ret
                exact ⟨rfl, by (repeat (first | with_reducible exact Gr.refl _ | with_reducible assumption | with_reducible refine Gr.setCell ?_ (by simp; try omega) _ | with_reducible refine Gr.alloc ?_ _ | with_reducible refine Gr.drew ?_ | with_reducible refine Gr.drewN ?_ _ | with_reducible refine Gr.trans ?_ (by assumption)))⟩
          · have HG := Lib.hid (show b = true ∧ ∀ x ∈ d, dataOk x = true by
              obtain ⟨h1, h2⟩ := HD.out rfl
              exact ⟨h1, by rw [List.take_of_length_le (by have := HN.out; have := HJ.out; omega)] at h2; exact h2⟩)
            have HG2 := Lib.hid (show B = true ∧ ∀ x ∈ l, 32 ≤ x ∧ x ≤ 47 by
              obtain ⟨h1, h2⟩ := HI.out HG.out.1
              refine ⟨h1, fun x hx => ?_⟩
              obtain ⟨i, hi⟩ := List.getElem?_of_mem hx
              have hil := (List.getElem?_eq_some_iff.1 hi).1
              exact h2 i (by have := HPZ.out; have := HSZ.out; omega) x hi)
            have HR := Lib.hid (show (m ≠ 0 ∧ inB m 60 63 = false) ∨ (m ≠ 0 ∨ np ≠ 0 ∨ nd ≠ 0) by
              rcases HBAD.out with h | h | ⟨x, hx, h⟩ | ⟨x, hx, h⟩ | h
              · exact .inl h
              · rw [HG2.out.1] at h; cases h
              · exact absurd (HG2.out.2 x hx) h
              · rw [HG.out.2 x hx] at h; cases h
              · exact .inr h)
            by_cases hm : m = 0
            · subst hm
              have HBR := Lib.hid (HBO.out (by rcases HR.out with h | h
                                               · exact absurd rfl h.1
                                               · exact h))
              go_wp2_with (first
                | (go_at_call 60; refine (hin _).mono ?_; rintro e w8 ⟨rfl, rfl⟩)
                | (go_at_call 61; refine (HBR.out _).mono ?_; rintro e w7 ⟨rfl, hg7⟩))
              go_ret
              refine ⟨rfl, Gr.trans ?_ hg7⟩
              (repeat (first | with_reducible exact Gr.refl _ | with_reducible assumption | with_reducible refine Gr.setCell ?_ (by simp; try omega) _ | with_reducible refine Gr.alloc ?_ _ | with_reducible refine Gr.drew ?_ | with_reducible refine Gr.drewN ?_ _ | with_reducible refine Gr.trans ?_ (by assumption)))
            · have hmz : (m != 0) = true := by simpa using hm
              cases hi : inB m 60 63
              · rw [hi] at hin
                go_wp2_with (go_at_call 60; refine (hin _).mono ?_; rintro e w8 ⟨rfl, rfl⟩)
                go_ret
                exact ⟨rfl, by (repeat (first | with_reducible exact Gr.refl _ | with_reducible assumption | with_reducible refine Gr.setCell ?_ (by simp; try omega) _ | with_reducible refine Gr.alloc ?_ _ | with_reducible refine Gr.drew ?_ | with_reducible refine Gr.drewN ?_ _ | with_reducible refine Gr.trans ?_ (by assumption)))⟩
              · rw [hi] at hin
                have HBR := Lib.hid (HBO.out (by rcases HR.out with h | h
                                                 · rw [h.2] at hi; cases hi
                                                 · exact h))
                go_wp2_with (first
                  | (go_at_call 60; refine (hin _).mono ?_; rintro e w8 ⟨rfl, rfl⟩)
                  | (go_at_call 61; refine (HBR.out _).mono ?_; rintro e w7 ⟨rfl, hg7⟩))
                go_ret
                refine ⟨rfl, Gr.trans ?_ hg7⟩
                (repeat (first | with_reducible exact Gr.refl _ | with_reducible assumption | with_reducible refine Gr.setCell ?_ (by simp; try omega) _ | with_reducible refine Gr.alloc ?_ _ | with_reducible refine Gr.drew ?_ | with_reducible refine Gr.drewN ?_ _ | with_reducible refine Gr.trans ?_ (by assumption)))

set_option maxRecDepth 100000 in
set_option maxHeartbeats 2000000 in
theorem bad_4 {w : World} {c m : Int} {l d : List Int} {a1 a2 : Option Addr} {np c1 nd c2 : Nat} {B : Bool} (hr0 : ∀ c ∈ l, 0 ≤ c ∧ c < 256) (hl3 : l.length ≤ 3) (hd4 : d.length ≤ 4096) (hnd : nd = d.length) (hr : HasRow w 5 (.slice a2 nd c2) nd (bcells d))
    (hgr : ∀ w', Gr w w' → Calls Tryd.prog 56 #[.agg #[.int .i64 4, .int .u8 c, .int .u8 m, .slice a1 np c1, .string (strOf l), .slice a2 nd c2]] w' fun e w2 => e = .returned (.bool false) ∧ Gr w' w2)
    (hcd : ∀ w', Gr w w' → CodeIs w' 4 c m (strOf l) (.slice a1 np c1) (.slice a2 nd c2) B)
    (hbad : (m ≠ 0 ∧ inB m 60 63 = false) ∨ B = false ∨ (∃ x ∈ l, ¬ (32 ≤ x ∧ x ≤ 47)) ∨ (∃ x ∈ d, dataOk x = false) ∨ (nd ≠ 0)) : Checks3 w 4 c m l (.slice a1 np c1) (.slice a2 nd c2) := by
  unfold CodeIs at hcd
  have hsz := strOf_size l
  have HS : Hid (∀ k (hk : k < (strOf l).size), ∃ x, l[k]? = some x ∧ (((strOf l)[k]'hk).toNat : Int) = x) := Lib.hid fun k hk => strOf_at hr0 hk
  have HN := Lib.hid hnd
  have HBAD := Lib.hid hbad
  have HBO : Hid ((nd ≠ 0) → ∀ w', Calls Tryd.prog 61 #[.agg #[.int .i64 0, .int .u8 0, .int .u8 0, .slice none 0 0, .string (strOf []), .slice a2 nd c2]] w' fun e w2 => e = .returned (.bool false) ∧ Gr w' w2) := Lib.hid fun h w' => bare_off _ _ _ _ _ _ _ _ _ _ _ (.inr (.inr (.inr h)))
  obtain ⟨s, hsd⟩ : ∃ s, s = strOf l := ⟨_, rfl⟩
  rw [← hsd] at hsz hgr hcd HS
  unfold Checks3
  rw [← hsd]
  have hss : s.size ≤ 3 := by omega
  have hnd4 : nd ≤ 4096 := by omega
  have HSZ := Lib.hid hsz
  clear hr0 hl3 hd4 hnd hsd hsz hbad
  have hw0 := (Gr.refl w).alloc (.cells #[.int .i64 4, .int .u8 c, .int .u8 m, .slice a1 np c1, .string s, .slice a2 nd c2] 34)
  have hb0 := heap_alloc_new w (.cells #[.int .i64 4, .int .u8 c, .int .u8 m, .slice a1 np c1, .string s, .slice a2 nd c2] 34)
  have hTl := blk_lt hb0
  go_enter Tryd.func48, Tryd.ntmps48
  go_wp2_with (first
    | (go_at_call 56; refine (hgr _ hw0).mono ?_; rintro e w2 ⟨rfl, hg2⟩; have hw2 := hw0.trans hg2; obtain ⟨t0, t1, t2, t3, t4, t5, tf⟩ := cells6 (hg2.blk hb0))
    | (go_at_call 57; refine (hcd _ hw2).mono ?_; rintro e w3 ⟨rfl, hg3⟩; have hw3 := hw2.trans hg3; obtain ⟨y0, y1, y2, y3, y4, y5, yf⟩ := cells6 ((hg2.trans hg3).blk hb0)))
  go_loopw [3] (fun g wr => ∃ (pos : Nat) (b : Bool), wr = w3.iter s pos ∧ g = .bool b ∧ IAt B l pos b) (fun _ wr => s.size - wr.iterPos w3.heap.size)
  case atStart => exact ⟨0, B, rfl, rfl, fun h => ⟨h, fun j hj => by omega⟩⟩
  case round =>
    obtain ⟨pos, b, rfl, rfl, hI⟩ := hrel
    have HI := Lib.hid hI; clear hI
    have hgI : Gr w3 (w3.iter s pos) := (Gr.refl w3).alloc _
    obtain ⟨v0, v1, v2, v3, v4, v5, vf⟩ := cells6 (((hg2.trans hg3).trans hgI).blk hb0)
    have hw4 := hw3.trans hgI
    have hlt4 := blk_lt (((hg2.trans hg3).trans hgI).blk hb0)
    clear t0 t1 t2 t3 t4 t5 tf y0 y1 y2 y3 y4 y5 yf
    by_cases hp : pos < s.size
    · by_cases ha : (s[pos]'hp).toNat < 128
      · obtain ⟨x, hx, hxs⟩ := HS.out pos hp
        have hnx : ∀ ty, (Instr.next (.pointer (some ⟨w3.heap.size, 0, none⟩)) true ty).run Tryd.prog (w3.iter s pos) = .ok (.tuple #[.bool true, .int .i64 pos, .int .i32 x]) (w3.iter s (pos + 1)) := fun ty => by
          rw [← hxs]; exact run_next_ascii w3 s pos ty hp ha
        have HX := Lib.hid hx
        clear hx hxs ha
        cases b
        · go_wp2_with fail
          go_roundw
          case rel => exact ⟨pos + 1, false, rfl, rfl, IAt.no⟩
          case measure => simp; omega
        · go_wp2_with (go_at_call 58; refine (inter_any x _).mono ?_; rintro e w5 ⟨rfl, rfl⟩)
          go_roundw
          case rel => exact ⟨pos + 1, _, rfl, rfl, HI.out.step HX.out⟩
          case measure => simp; omega
      · obtain ⟨r, n, hrn, hr128, hn1⟩ : ∃ r n : Nat, (∀ ty, (Instr.next (.pointer (some ⟨w3.heap.size, 0, none⟩)) true ty).run Tryd.prog (w3.iter s pos) = .ok (.tuple #[.bool true, .int .i64 pos, .int .i32 r]) (w3.iter s (pos + n))) ∧ 128 ≤ r ∧ 1 ≤ n :=
          ⟨_, _, fun ty => run_next_any w3 s pos ty hp, (decode_high s pos hp (by omega)).1, (decode_high s pos hp (by omega)).2⟩
        have hih := inter_high hr128
        have hin := fun w => inter_any (r : Int) w
        rw [hih] at hin
        clear ha hih hr128
        cases b
        · go_wp2_with fail
          go_roundw
          case rel => exact ⟨pos + n, false, rfl, rfl, IAt.no⟩
          case measure => simp; omega
        · go_wp2_with (go_at_call 58; refine (hin _).mono ?_; rintro e w5 ⟨rfl, rfl⟩)
          go_roundw
          case rel => exact ⟨pos + n, false, rfl, rfl, IAt.no⟩
          case measure => simp; omega
    · have hnx : ∀ ty, (Instr.next (.pointer (some ⟨w3.heap.size, 0, none⟩)) true ty).run Tryd.prog (w3.iter s pos) = _ := fun ty => run_next_end w3 s pos ty hp
      go_wp2_with fail
      go_loop [3, 35] (fun g i => ∃ (j : Nat) (b2 : Bool), j ≤ nd ∧ i = .int .i64 j ∧ g = .bool b2 ∧ DAt b d j b2) (fun _ i => nd - (intOf i).toNat)
      case atStart => exact ⟨0, b, Nat.zero_le _, rfl, rfl, fun h => ⟨h, by simp⟩⟩
      case round =>
        obtain ⟨j, b2, hj, rfl, rfl, hD⟩ := hrel
        have HD := Lib.hid hD; clear hD
        by_cases hlt : j < nd
        · obtain ⟨g1, p1, u1, hv1, hu1, hc1⟩ := (hr.gr hw4).at_ hlt
          injection hv1 with e1 e2 e3
          subst e1
          have hu := bcells_at' hu1
          subst hu
          obtain ⟨x, hxd⟩ : ∃ x, x = d.getD j 0 := ⟨_, rfl⟩
          have HXD := Lib.hid (show d[j]? = some x by rw [hxd, List.getD, List.getElem?_eq_getElem (by have := HN.out; omega)]; simp)
          rw [← hxd] at hc1
          have hjn : (j : Int) < (nd : Int) := by omega
          have j0 : (0 : Int) ≤ (j : Int) := by omega
          clear hxd hr hu1 e2 e3 hnx hgr hcd
          cases b2
          · go_wp2_with fail
            go_round
            case rel => exact ⟨j + 1, false, by omega, by go_num, rfl, DAt.no⟩
            case measure => simp [intOf]; omega
          · go_wp2_with (go_at_call 59; refine (data_any x _).mono ?_; rintro e w6 ⟨rfl, rfl⟩)
            go_round
            case rel => exact ⟨j + 1, _, by omega, by go_num, rfl, HD.out.step HXD.out⟩
            case measure => simp [intOf]; omega
        · have hjn : ¬ (j : Int) < (nd : Int) := by omega
          have HJ := Lib.hid (show j = nd by omega)
          have HPZ := Lib.hid hp
          have hwz := hw4
          clear hnx hgr hcd hr hp
          have hin := fun w => in_any m 60 63 w
          cases b2
          · by_cases hm : m = 0
            · subst hm
              go_wp2_with fail
              go_ret
              exact ⟨rfl, by (repeat (first | with_reducible exact Gr.refl _ | with_reducible assumption | with_reducible refine Gr.setCell ?_ (by simp; try omega) _ | with_reducible refine Gr.alloc ?_ _ | with_reducible refine Gr.drew ?_ | with_reducible refine Gr.drewN ?_ _ | with_reducible refine Gr.trans ?_ (by assumption)))⟩
            · have hmz : (m != 0) = true := by simpa using hm
              cases hi : inB m 60 63
              all_goals
                rw [hi] at hin
                go_wp2_with (go_at_call 60; refine (hin _).mono ?_; rintro e w8 ⟨rfl, rfl⟩)
                go_ret
                exact ⟨rfl, by (repeat (first | with_reducible exact Gr.refl _ | with_reducible assumption | with_reducible refine Gr.setCell ?_ (by simp; try omega) _ | with_reducible refine Gr.alloc ?_ _ | with_reducible refine Gr.drew ?_ | with_reducible refine Gr.drewN ?_ _ | with_reducible refine Gr.trans ?_ (by assumption)))⟩
          · have HG := Lib.hid (show b = true ∧ ∀ x ∈ d, dataOk x = true by
              obtain ⟨h1, h2⟩ := HD.out rfl
              exact ⟨h1, by rw [List.take_of_length_le (by have := HN.out; have := HJ.out; omega)] at h2; exact h2⟩)
            have HG2 := Lib.hid (show B = true ∧ ∀ x ∈ l, 32 ≤ x ∧ x ≤ 47 by
              obtain ⟨h1, h2⟩ := HI.out HG.out.1
              refine ⟨h1, fun x hx => ?_⟩
              obtain ⟨i, hi⟩ := List.getElem?_of_mem hx
              have hil := (List.getElem?_eq_some_iff.1 hi).1
              exact h2 i (by have := HPZ.out; have := HSZ.out; omega) x hi)
            have HR := Lib.hid (show (m ≠ 0 ∧ inB m 60 63 = false) ∨ (nd ≠ 0) by
              rcases HBAD.out with h | h | ⟨x, hx, h⟩ | ⟨x, hx, h⟩ | h
              · exact .inl h
              · rw [HG2.out.1] at h; cases h
              · exact absurd (HG2.out.2 x hx) h
              · rw [HG.out.2 x hx] at h; cases h
              · exact .inr h)
            by_cases hm : m = 0
            · subst hm
              have HBR := Lib.hid (HBO.out (by rcases HR.out with h | h
                                               · exact absurd rfl h.1
                                               · exact h))
              go_wp2_with (first
                | (go_at_call 60; refine (hin _).mono ?_; rintro e w8 ⟨rfl, rfl⟩)
                | (go_at_call 61; refine (HBR.out _).mono ?_; rintro e w7 ⟨rfl, hg7⟩))
              go_ret
              refine ⟨rfl, Gr.trans ?_ hg7⟩
              (repeat (first | with_reducible exact Gr.refl _ | with_reducible assumption | with_reducible refine Gr.setCell ?_ (by simp; try omega) _ | with_reducible refine Gr.alloc ?_ _ | with_reducible refine Gr.drew ?_ | with_reducible refine Gr.drewN ?_ _ | with_reducible refine Gr.trans ?_ (by assumption)))
            · have hmz : (m != 0) = true := by simpa using hm
              cases hi : inB m 60 63
              · rw [hi] at hin
                go_wp2_with (go_at_call 60; refine (hin _).mono ?_; rintro e w8 ⟨rfl, rfl⟩)
                go_ret
                exact ⟨rfl, by (repeat (first | with_reducible exact Gr.refl _ | with_reducible assumption | with_reducible refine Gr.setCell ?_ (by simp; try omega) _ | with_reducible refine Gr.alloc ?_ _ | with_reducible refine Gr.drew ?_ | with_reducible refine Gr.drewN ?_ _ | with_reducible refine Gr.trans ?_ (by assumption)))⟩
              · rw [hi] at hin
                have HBR := Lib.hid (HBO.out (by rcases HR.out with h | h
                                                 · rw [h.2] at hi; cases hi
                                                 · exact h))
                go_wp2_with (first
                  | (go_at_call 60; refine (hin _).mono ?_; rintro e w8 ⟨rfl, rfl⟩)
                  | (go_at_call 61; refine (HBR.out _).mono ?_; rintro e w7 ⟨rfl, hg7⟩))
                go_ret
                refine ⟨rfl, Gr.trans ?_ hg7⟩
                (repeat (first | with_reducible exact Gr.refl _ | with_reducible assumption | with_reducible refine Gr.setCell ?_ (by simp; try omega) _ | with_reducible refine Gr.alloc ?_ _ | with_reducible refine Gr.drew ?_ | with_reducible refine Gr.drewN ?_ _ | with_reducible refine Gr.trans ?_ (by assumption)))

set_option maxRecDepth 100000 in
set_option maxHeartbeats 2000000 in
theorem bad_5 {w : World} {c m : Int} {l d : List Int} {a1 a2 : Option Addr} {np c1 nd c2 : Nat} {B : Bool} (hr0 : ∀ c ∈ l, 0 ≤ c ∧ c < 256) (hl3 : l.length ≤ 3) (hd4 : d.length ≤ 4096) (hnd : nd = d.length) (hr : HasRow w 5 (.slice a2 nd c2) nd (bcells d))
    (hgr : ∀ w', Gr w w' → Calls Tryd.prog 56 #[.agg #[.int .i64 5, .int .u8 c, .int .u8 m, .slice a1 np c1, .string (strOf l), .slice a2 nd c2]] w' fun e w2 => e = .returned (.bool false) ∧ Gr w' w2)
    (hcd : ∀ w', Gr w w' → CodeIs w' 5 c m (strOf l) (.slice a1 np c1) (.slice a2 nd c2) B)
    (hbad : (m ≠ 0 ∧ inB m 60 63 = false) ∨ B = false ∨ (∃ x ∈ l, ¬ (32 ≤ x ∧ x ≤ 47)) ∨ (∃ x ∈ d, dataOk x = false) ∨ (False)) : Checks3 w 5 c m l (.slice a1 np c1) (.slice a2 nd c2) := by
  unfold CodeIs at hcd
  have hsz := strOf_size l
  have HS : Hid (∀ k (hk : k < (strOf l).size), ∃ x, l[k]? = some x ∧ (((strOf l)[k]'hk).toNat : Int) = x) := Lib.hid fun k hk => strOf_at hr0 hk
  have HN := Lib.hid hnd
  have HBAD := Lib.hid hbad
  obtain ⟨s, hsd⟩ : ∃ s, s = strOf l := ⟨_, rfl⟩
  rw [← hsd] at hsz hgr hcd HS
  unfold Checks3
  rw [← hsd]
  have hss : s.size ≤ 3 := by omega
  have hnd4 : nd ≤ 4096 := by omega
  have HSZ := Lib.hid hsz
  clear hr0 hl3 hd4 hnd hsd hsz hbad
  have hw0 := (Gr.refl w).alloc (.cells #[.int .i64 5, .int .u8 c, .int .u8 m, .slice a1 np c1, .string s, .slice a2 nd c2] 34)
  have hb0 := heap_alloc_new w (.cells #[.int .i64 5, .int .u8 c, .int .u8 m, .slice a1 np c1, .string s, .slice a2 nd c2] 34)
  have hTl := blk_lt hb0
  go_enter Tryd.func48, Tryd.ntmps48
  go_wp2_with (first
    | (go_at_call 56; refine (hgr _ hw0).mono ?_; rintro e w2 ⟨rfl, hg2⟩; have hw2 := hw0.trans hg2; obtain ⟨t0, t1, t2, t3, t4, t5, tf⟩ := cells6 (hg2.blk hb0))
    | (go_at_call 57; refine (hcd _ hw2).mono ?_; rintro e w3 ⟨rfl, hg3⟩; have hw3 := hw2.trans hg3; obtain ⟨y0, y1, y2, y3, y4, y5, yf⟩ := cells6 ((hg2.trans hg3).blk hb0)))
  go_loopw [3] (fun g wr => ∃ (pos : Nat) (b : Bool), wr = w3.iter s pos ∧ g = .bool b ∧ IAt B l pos b) (fun _ wr => s.size - wr.iterPos w3.heap.size)
  case atStart => exact ⟨0, B, rfl, rfl, fun h => ⟨h, fun j hj => by omega⟩⟩
  case round =>
    obtain ⟨pos, b, rfl, rfl, hI⟩ := hrel
    have HI := Lib.hid hI; clear hI
    have hgI : Gr w3 (w3.iter s pos) := (Gr.refl w3).alloc _
    obtain ⟨v0, v1, v2, v3, v4, v5, vf⟩ := cells6 (((hg2.trans hg3).trans hgI).blk hb0)
    have hw4 := hw3.trans hgI
    have hlt4 := blk_lt (((hg2.trans hg3).trans hgI).blk hb0)
    clear t0 t1 t2 t3 t4 t5 tf y0 y1 y2 y3 y4 y5 yf
    by_cases hp : pos < s.size
    · by_cases ha : (s[pos]'hp).toNat < 128
      · obtain ⟨x, hx, hxs⟩ := HS.out pos hp
        have hnx : ∀ ty, (Instr.next (.pointer (some ⟨w3.heap.size, 0, none⟩)) true ty).run Tryd.prog (w3.iter s pos) = .ok (.tuple #[.bool true, .int .i64 pos, .int .i32 x]) (w3.iter s (pos + 1)) := fun ty => by
          rw [← hxs]; exact run_next_ascii w3 s pos ty hp ha
        have HX := Lib.hid hx
        clear hx hxs ha
        cases b
        · go_wp2_with fail
          go_roundw
          case rel => exact ⟨pos + 1, false, rfl, rfl, IAt.no⟩
          case measure => simp; omega
        · go_wp2_with (go_at_call 58; refine (inter_any x _).mono ?_; rintro e w5 ⟨rfl, rfl⟩)
          go_roundw
          case rel => exact ⟨pos + 1, _, rfl, rfl, HI.out.step HX.out⟩
          case measure => simp; omega
      · obtain ⟨r, n, hrn, hr128, hn1⟩ : ∃ r n : Nat, (∀ ty, (Instr.next (.pointer (some ⟨w3.heap.size, 0, none⟩)) true ty).run Tryd.prog (w3.iter s pos) = .ok (.tuple #[.bool true, .int .i64 pos, .int .i32 r]) (w3.iter s (pos + n))) ∧ 128 ≤ r ∧ 1 ≤ n :=
          ⟨_, _, fun ty => run_next_any w3 s pos ty hp, (decode_high s pos hp (by omega)).1, (decode_high s pos hp (by omega)).2⟩
        have hih := inter_high hr128
        have hin := fun w => inter_any (r : Int) w
        rw [hih] at hin
        clear ha hih hr128
        cases b
        · go_wp2_with fail
          go_roundw
          case rel => exact ⟨pos + n, false, rfl, rfl, IAt.no⟩
          case measure => simp; omega
        · go_wp2_with (go_at_call 58; refine (hin _).mono ?_; rintro e w5 ⟨rfl, rfl⟩)
          go_roundw
          case rel => exact ⟨pos + n, false, rfl, rfl, IAt.no⟩
          case measure => simp; omega
    · have hnx : ∀ ty, (Instr.next (.pointer (some ⟨w3.heap.size, 0, none⟩)) true ty).run Tryd.prog (w3.iter s pos) = _ := fun ty => run_next_end w3 s pos ty hp
      go_wp2_with fail
      go_loop [3, 35] (fun g i => ∃ (j : Nat) (b2 : Bool), j ≤ nd ∧ i = .int .i64 j ∧ g = .bool b2 ∧ DAt b d j b2) (fun _ i => nd - (intOf i).toNat)
      case atStart => exact ⟨0, b, Nat.zero_le _, rfl, rfl, fun h => ⟨h, by simp⟩⟩
      case round =>
        obtain ⟨j, b2, hj, rfl, rfl, hD⟩ := hrel
        have HD := Lib.hid hD; clear hD
        by_cases hlt : j < nd
        · obtain ⟨g1, p1, u1, hv1, hu1, hc1⟩ := (hr.gr hw4).at_ hlt
          injection hv1 with e1 e2 e3
          subst e1
          have hu := bcells_at' hu1
          subst hu
          obtain ⟨x, hxd⟩ : ∃ x, x = d.getD j 0 := ⟨_, rfl⟩
          have HXD := Lib.hid (show d[j]? = some x by rw [hxd, List.getD, List.getElem?_eq_getElem (by have := HN.out; omega)]; simp)
          rw [← hxd] at hc1
          have hjn : (j : Int) < (nd : Int) := by omega
          have j0 : (0 : Int) ≤ (j : Int) := by omega
          clear hxd hr hu1 e2 e3 hnx hgr hcd
          cases b2
          · go_wp2_with fail
            go_round
            case rel => exact ⟨j + 1, false, by omega, by go_num, rfl, DAt.no⟩
            case measure => simp [intOf]; omega
          · go_wp2_with (go_at_call 59; refine (data_any x _).mono ?_; rintro e w6 ⟨rfl, rfl⟩)
            go_round
            case rel => exact ⟨j + 1, _, by omega, by go_num, rfl, HD.out.step HXD.out⟩
            case measure => simp [intOf]; omega
        · have hjn : ¬ (j : Int) < (nd : Int) := by omega
          have HJ := Lib.hid (show j = nd by omega)
          have HPZ := Lib.hid hp
          have hwz := hw4
          clear hnx hgr hcd hr hp
          have hin := fun w => in_any m 60 63 w
          cases b2
          · by_cases hm : m = 0
            · subst hm
              go_wp2_with fail
              go_ret
              exact ⟨rfl, by (repeat (first | with_reducible exact Gr.refl _ | with_reducible assumption | with_reducible refine Gr.setCell ?_ (by simp; try omega) _ | with_reducible refine Gr.alloc ?_ _ | with_reducible refine Gr.drew ?_ | with_reducible refine Gr.drewN ?_ _ | with_reducible refine Gr.trans ?_ (by assumption)))⟩
            · have hmz : (m != 0) = true := by simpa using hm
              cases hi : inB m 60 63
              all_goals
                rw [hi] at hin
                go_wp2_with (go_at_call 60; refine (hin _).mono ?_; rintro e w8 ⟨rfl, rfl⟩)
                go_ret
                exact ⟨rfl, by (repeat (first | with_reducible exact Gr.refl _ | with_reducible assumption | with_reducible refine Gr.setCell ?_ (by simp; try omega) _ | with_reducible refine Gr.alloc ?_ _ | with_reducible refine Gr.drew ?_ | with_reducible refine Gr.drewN ?_ _ | with_reducible refine Gr.trans ?_ (by assumption)))⟩
          · have HG := Lib.hid (show b = true ∧ ∀ x ∈ d, dataOk x = true by
              obtain ⟨h1, h2⟩ := HD.out rfl
              exact ⟨h1, by rw [List.take_of_length_le (by have := HN.out; have := HJ.out; omega)] at h2; exact h2⟩)
            have HG2 := Lib.hid (show B = true ∧ ∀ x ∈ l, 32 ≤ x ∧ x ≤ 47 by
              obtain ⟨h1, h2⟩ := HI.out HG.out.1
              refine ⟨h1, fun x hx => ?_⟩
              obtain ⟨i, hi⟩ := List.getElem?_of_mem hx
              have hil := (List.getElem?_eq_some_iff.1 hi).1
              exact h2 i (by have := HPZ.out; have := HSZ.out; omega) x hi)
            have HR := Lib.hid (show (m ≠ 0 ∧ inB m 60 63 = false) ∨ (False) by
              rcases HBAD.out with h | h | ⟨x, hx, h⟩ | ⟨x, hx, h⟩ | h
              · exact .inl h
              · rw [HG2.out.1] at h; cases h
              · exact absurd (HG2.out.2 x hx) h
              · rw [HG.out.2 x hx] at h; cases h
              · exact .inr h)
            have hx : m ≠ 0 ∧ inB m 60 63 = false := by rcases HR.out with h | h
                                                        · exact h
                                                        · exact h.elim
            obtain ⟨hm, hi⟩ := hx
            have hmz : (m != 0) = true := by simpa using hm
            rw [hi] at hin
            go_wp2_with (go_at_call 60; refine (hin _).mono ?_; rintro e w8 ⟨rfl, rfl⟩)
            go_ret
            exact ⟨rfl, by (repeat (first | with_reducible exact Gr.refl _ | with_reducible assumption | with_reducible refine Gr.setCell ?_ (by simp; try omega) _ | with_reducible refine Gr.alloc ?_ _ | with_reducible refine Gr.drew ?_ | with_reducible refine Gr.drewN ?_ _ | with_reducible refine Gr.trans ?_ (by assumption)))⟩

set_option maxRecDepth 100000 in
set_option maxHeartbeats 2000000 in
theorem bad_6 {w : World} {c m : Int} {l d : List Int} {a1 a2 : Option Addr} {np c1 nd c2 : Nat} {B : Bool} (hr0 : ∀ c ∈ l, 0 ≤ c ∧ c < 256) (hl3 : l.length ≤ 3) (hd4 : d.length ≤ 4096) (hnd : nd = d.length) (hr : HasRow w 5 (.slice a2 nd c2) nd (bcells d))
    (hgr : ∀ w', Gr w w' → Calls Tryd.prog 56 #[.agg #[.int .i64 6, .int .u8 c, .int .u8 m, .slice a1 np c1, .string (strOf l), .slice a2 nd c2]] w' fun e w2 => e = .returned (.bool false) ∧ Gr w' w2)
    (hcd : ∀ w', Gr w w' → CodeIs w' 6 c m (strOf l) (.slice a1 np c1) (.slice a2 nd c2) B)
    (hbad : (m ≠ 0 ∧ inB m 60 63 = false) ∨ B = false ∨ (∃ x ∈ l, ¬ (32 ≤ x ∧ x ≤ 47)) ∨ (∃ x ∈ d, dataOk x = false) ∨ (m ≠ 0 ∨ np ≠ 0 ∨ l ≠ [])) : Checks3 w 6 c m l (.slice a1 np c1) (.slice a2 nd c2) := by
  unfold CodeIs at hcd
  have hsz := strOf_size l
  have HS : Hid (∀ k (hk : k < (strOf l).size), ∃ x, l[k]? = some x ∧ (((strOf l)[k]'hk).toNat : Int) = x) := Lib.hid fun k hk => strOf_at hr0 hk
  have HN := Lib.hid hnd
  have HBAD := Lib.hid hbad
  have HBO : Hid ((m ≠ 0 ∨ np ≠ 0 ∨ l ≠ []) → ∀ w', Calls Tryd.prog 61 #[.agg #[.int .i64 6, .int .u8 c, .int .u8 m, .slice a1 np c1, .string (strOf l), .slice none 0 0]] w' fun e w2 => e = .returned (.bool false) ∧ Gr w' w2) := Lib.hid fun h w' => bare_off _ _ _ _ _ _ _ _ _ _ _ (h.elim (fun h => .inl h) (fun h => h.elim (fun h => .inr (.inl h)) (fun h => .inr (.inr (.inl h)))))
  obtain ⟨s, hsd⟩ : ∃ s, s = strOf l := ⟨_, rfl⟩
  rw [← hsd] at hsz hgr hcd HS
  rw [← hsd] at HBO
  unfold Checks3
  rw [← hsd]
  have hss : s.size ≤ 3 := by omega
  have hnd4 : nd ≤ 4096 := by omega
  have HSZ := Lib.hid hsz
  clear hr0 hl3 hd4 hnd hsd hsz hbad
  have hw0 := (Gr.refl w).alloc (.cells #[.int .i64 6, .int .u8 c, .int .u8 m, .slice a1 np c1, .string s, .slice a2 nd c2] 34)
  have hb0 := heap_alloc_new w (.cells #[.int .i64 6, .int .u8 c, .int .u8 m, .slice a1 np c1, .string s, .slice a2 nd c2] 34)
  have hTl := blk_lt hb0
  go_enter Tryd.func48, Tryd.ntmps48
  go_wp2_with (first
    | (go_at_call 56; refine (hgr _ hw0).mono ?_; rintro e w2 ⟨rfl, hg2⟩; have hw2 := hw0.trans hg2; obtain ⟨t0, t1, t2, t3, t4, t5, tf⟩ := cells6 (hg2.blk hb0))
    | (go_at_call 57; refine (hcd _ hw2).mono ?_; rintro e w3 ⟨rfl, hg3⟩; have hw3 := hw2.trans hg3; obtain ⟨y0, y1, y2, y3, y4, y5, yf⟩ := cells6 ((hg2.trans hg3).blk hb0)))
  go_loopw [3] (fun g wr => ∃ (pos : Nat) (b : Bool), wr = w3.iter s pos ∧ g = .bool b ∧ IAt B l pos b) (fun _ wr => s.size - wr.iterPos w3.heap.size)
  case atStart => exact ⟨0, B, rfl, rfl, fun h => ⟨h, fun j hj => by omega⟩⟩
  case round =>
    obtain ⟨pos, b, rfl, rfl, hI⟩ := hrel
    have HI := Lib.hid hI; clear hI
    have hgI : Gr w3 (w3.iter s pos) := (Gr.refl w3).alloc _
    obtain ⟨v0, v1, v2, v3, v4, v5, vf⟩ := cells6 (((hg2.trans hg3).trans hgI).blk hb0)
    have hw4 := hw3.trans hgI
    have hlt4 := blk_lt (((hg2.trans hg3).trans hgI).blk hb0)
    clear t0 t1 t2 t3 t4 t5 tf y0 y1 y2 y3 y4 y5 yf
    by_cases hp : pos < s.size
    · by_cases ha : (s[pos]'hp).toNat < 128
      · obtain ⟨x, hx, hxs⟩ := HS.out pos hp
        have hnx : ∀ ty, (Instr.next (.pointer (some ⟨w3.heap.size, 0, none⟩)) true ty).run Tryd.prog (w3.iter s pos) = .ok (.tuple #[.bool true, .int .i64 pos, .int .i32 x]) (w3.iter s (pos + 1)) := fun ty => by
          rw [← hxs]; exact run_next_ascii w3 s pos ty hp ha
        have HX := Lib.hid hx
        clear hx hxs ha
        cases b
        · go_wp2_with fail
          go_roundw
          case rel => exact ⟨pos + 1, false, rfl, rfl, IAt.no⟩
          case measure => simp; omega
        · go_wp2_with (go_at_call 58; refine (inter_any x _).mono ?_; rintro e w5 ⟨rfl, rfl⟩)
          go_roundw
          case rel => exact ⟨pos + 1, _, rfl, rfl, HI.out.step HX.out⟩
          case measure => simp; omega
      · obtain ⟨r, n, hrn, hr128, hn1⟩ : ∃ r n : Nat, (∀ ty, (Instr.next (.pointer (some ⟨w3.heap.size, 0, none⟩)) true ty).run Tryd.prog (w3.iter s pos) = .ok (.tuple #[.bool true, .int .i64 pos, .int .i32 r]) (w3.iter s (pos + n))) ∧ 128 ≤ r ∧ 1 ≤ n :=
          ⟨_, _, fun ty => run_next_any w3 s pos ty hp, (decode_high s pos hp (by omega)).1, (decode_high s pos hp (by omega)).2⟩
        have hih := inter_high hr128
        have hin := fun w => inter_any (r : Int) w
        rw [hih] at hin
        clear ha hih hr128
        cases b
        · go_wp2_with fail
          go_roundw
          case rel => exact ⟨pos + n, false, rfl, rfl, IAt.no⟩
          case measure => simp; omega
        · go_wp2_with (go_at_call 58; refine (hin _).mono ?_; rintro e w5 ⟨rfl, rfl⟩)
          go_roundw
          case rel => exact ⟨pos + n, false, rfl, rfl, IAt.no⟩
          case measure => simp; omega
    · have hnx : ∀ ty, (Instr.next (.pointer (some ⟨w3.heap.size, 0, none⟩)) true ty).run Tryd.prog (w3.iter s pos) = _ := fun ty => run_next_end w3 s pos ty hp
      go_wp2_with fail
      go_loop [3, 35] (fun g i => ∃ (j : Nat) (b2 : Bool), j ≤ nd ∧ i = .int .i64 j ∧ g = .bool b2 ∧ DAt b d j b2) (fun _ i => nd - (intOf i).toNat)
      case atStart => exact ⟨0, b, Nat.zero_le _, rfl, rfl, fun h => ⟨h, by simp⟩⟩
      case round =>
        obtain ⟨j, b2, hj, rfl, rfl, hD⟩ := hrel
        have HD := Lib.hid hD; clear hD
        by_cases hlt : j < nd
        · obtain ⟨g1, p1, u1, hv1, hu1, hc1⟩ := (hr.gr hw4).at_ hlt
          injection hv1 with e1 e2 e3
          subst e1
          have hu := bcells_at' hu1
          subst hu
          obtain ⟨x, hxd⟩ : ∃ x, x = d.getD j 0 := ⟨_, rfl⟩
          have HXD := Lib.hid (show d[j]? = some x by rw [hxd, List.getD, List.getElem?_eq_getElem (by have := HN.out; omega)]; simp)
          rw [← hxd] at hc1
          have hjn : (j : Int) < (nd : Int) := by omega
          have j0 : (0 : Int) ≤ (j : Int) := by omega
          clear hxd hr hu1 e2 e3 hnx hgr hcd
          cases b2
          · go_wp2_with fail
            go_round
            case rel => exact ⟨j + 1, false, by omega, by go_num, rfl, DAt.no⟩
            case measure => simp [intOf]; omega
          · go_wp2_with (go_at_call 59; refine (data_any x _).mono ?_; rintro e w6 ⟨rfl, rfl⟩)
            go_round
            case rel => exact ⟨j + 1, _, by omega, by go_num, rfl, HD.out.step HXD.out⟩
            case measure => simp [intOf]; omega
        · have hjn : ¬ (j : Int) < (nd : Int) := by omega
          have HJ := Lib.hid (show j = nd by omega)
          have HPZ := Lib.hid hp
          have hwz := hw4
          clear hnx hgr hcd hr hp
          have hin := fun w => in_any m 60 63 w
          cases b2
          · by_cases hm : m = 0
            · subst hm
              go_wp2_with fail
              go_ret
              exact ⟨rfl, by (repeat (first | with_reducible exact Gr.refl _ | with_reducible assumption | with_reducible refine Gr.setCell ?_ (by simp; try omega) _ | with_reducible refine Gr.alloc ?_ _ | with_reducible refine Gr.drew ?_ | with_reducible refine Gr.drewN ?_ _ | with_reducible refine Gr.trans ?_ (by assumption)))⟩
            · have hmz : (m != 0) = true := by simpa using hm
              cases hi : inB m 60 63
              all_goals
                rw [hi] at hin
                go_wp2_with (go_at_call 60; refine (hin _).mono ?_; rintro e w8 ⟨rfl, rfl⟩)
                go_ret
                exact ⟨rfl, by (repeat (first | with_reducible exact Gr.refl _ | with_reducible assumption | with_reducible refine Gr.setCell ?_ (by simp; try omega) _ | with_reducible refine Gr.alloc ?_ _ | with_reducible refine Gr.drew ?_ | with_reducible refine Gr.drewN ?_ _ | with_reducible refine Gr.trans ?_ (by assumption)))⟩
          · have HG := Lib.hid (show b = true ∧ ∀ x ∈ d, dataOk x = true by
              obtain ⟨h1, h2⟩ := HD.out rfl
              exact ⟨h1, by rw [List.take_of_length_le (by have := HN.out; have := HJ.out; omega)] at h2; exact h2⟩)
            have HG2 := Lib.hid (show B = true ∧ ∀ x ∈ l, 32 ≤ x ∧ x ≤ 47 by
              obtain ⟨h1, h2⟩ := HI.out HG.out.1
              refine ⟨h1, fun x hx => ?_⟩
              obtain ⟨i, hi⟩ := List.getElem?_of_mem hx
              have hil := (List.getElem?_eq_some_iff.1 hi).1
              exact h2 i (by have := HPZ.out; have := HSZ.out; omega) x hi)
            have HR := Lib.hid (show (m ≠ 0 ∧ inB m 60 63 = false) ∨ (m ≠ 0 ∨ np ≠ 0 ∨ l ≠ []) by
              rcases HBAD.out with h | h | ⟨x, hx, h⟩ | ⟨x, hx, h⟩ | h
              · exact .inl h
              · rw [HG2.out.1] at h; cases h
              · exact absurd (HG2.out.2 x hx) h
              · rw [HG.out.2 x hx] at h; cases h
              · exact .inr h)
            by_cases hm : m = 0
            · subst hm
              have HBR := Lib.hid (HBO.out (by rcases HR.out with h | h
                                               · exact absurd rfl h.1
                                               · exact h))
              go_wp2_with (first
                | (go_at_call 60; refine (hin _).mono ?_; rintro e w8 ⟨rfl, rfl⟩)
                | (go_at_call 61; refine (HBR.out _).mono ?_; rintro e w7 ⟨rfl, hg7⟩))
              go_ret
              refine ⟨rfl, Gr.trans ?_ hg7⟩
              (repeat (first | with_reducible exact Gr.refl _ | with_reducible assumption | with_reducible refine Gr.setCell ?_ (by simp; try omega) _ | with_reducible refine Gr.alloc ?_ _ | with_reducible refine Gr.drew ?_ | with_reducible refine Gr.drewN ?_ _ | with_reducible refine Gr.trans ?_ (by assumption)))
            · have hmz : (m != 0) = true := by simpa using hm
              cases hi : inB m 60 63
              · rw [hi] at hin
                go_wp2_with (go_at_call 60; refine (hin _).mono ?_; rintro e w8 ⟨rfl, rfl⟩)
                go_ret
                exact ⟨rfl, by (repeat (first | with_reducible exact Gr.refl _ | with_reducible assumption | with_reducible refine Gr.setCell ?_ (by simp; try omega) _ | with_reducible refine Gr.alloc ?_ _ | with_reducible refine Gr.drew ?_ | with_reducible refine Gr.drewN ?_ _ | with_reducible refine Gr.trans ?_ (by assumption)))⟩
              · rw [hi] at hin
                have HBR := Lib.hid (HBO.out (by rcases HR.out with h | h
                                                 · rw [h.2] at hi; cases hi
                                                 · exact h))
                go_wp2_with (first
                  | (go_at_call 60; refine (hin _).mono ?_; rintro e w8 ⟨rfl, rfl⟩)
                  | (go_at_call 61; refine (HBR.out _).mono ?_; rintro e w7 ⟨rfl, hg7⟩))
                go_ret
                refine ⟨rfl, Gr.trans ?_ hg7⟩
                (repeat (first | with_reducible exact Gr.refl _ | with_reducible assumption | with_reducible refine Gr.setCell ?_ (by simp; try omega) _ | with_reducible refine Gr.alloc ?_ _ | with_reducible refine Gr.drew ?_ | with_reducible refine Gr.drewN ?_ _ | with_reducible refine Gr.trans ?_ (by assumption)))

set_option maxRecDepth 100000 in
set_option maxHeartbeats 2000000 in
theorem bad_7 {w : World} {c m : Int} {l d : List Int} {a1 a2 : Option Addr} {np c1 nd c2 : Nat} {B : Bool} (hr0 : ∀ c ∈ l, 0 ≤ c ∧ c < 256) (hl3 : l.length ≤ 3) (hd4 : d.length ≤ 4096) (hnd : nd = d.length) (hr : HasRow w 5 (.slice a2 nd c2) nd (bcells d))
    (hgr : ∀ w', Gr w w' → Calls Tryd.prog 56 #[.agg #[.int .i64 7, .int .u8 c, .int .u8 m, .slice a1 np c1, .string (strOf l), .slice a2 nd c2]] w' fun e w2 => e = .returned (.bool false) ∧ Gr w' w2)
    (hcd : ∀ w', Gr w w' → CodeIs w' 7 c m (strOf l) (.slice a1 np c1) (.slice a2 nd c2) B)
    (hbad : (m ≠ 0 ∧ inB m 60 63 = false) ∨ B = false ∨ (∃ x ∈ l, ¬ (32 ≤ x ∧ x ≤ 47)) ∨ (∃ x ∈ d, dataOk x = false) ∨ (m ≠ 0 ∨ np ≠ 0 ∨ l ≠ [])) : Checks3 w 7 c m l (.slice a1 np c1) (.slice a2 nd c2) := by
  unfold CodeIs at hcd
  have hsz := strOf_size l
  have HS : Hid (∀ k (hk : k < (strOf l).size), ∃ x, l[k]? = some x ∧ (((strOf l)[k]'hk).toNat : Int) = x) := Lib.hid fun k hk => strOf_at hr0 hk
  have HN := Lib.hid hnd
  have HBAD := Lib.hid hbad
  have HBO : Hid ((m ≠ 0 ∨ np ≠ 0 ∨ l ≠ []) → ∀ w', Calls Tryd.prog 61 #[.agg #[.int .i64 7, .int .u8 c, .int .u8 m, .slice a1 np c1, .string (strOf l), .slice none 0 0]] w' fun e w2 => e = .returned (.bool false) ∧ Gr w' w2) := Lib.hid fun h w' => bare_off _ _ _ _ _ _ _ _ _ _ _ (h.elim (fun h => .inl h) (fun h => h.elim (fun h => .inr (.inl h)) (fun h => .inr (.inr (.inl h)))))
  obtain ⟨s, hsd⟩ : ∃ s, s = strOf l := ⟨_, rfl⟩
  rw [← hsd] at hsz hgr hcd HS
  rw [← hsd] at HBO
  unfold Checks3
  rw [← hsd]
  have hss : s.size ≤ 3 := by omega
  have hnd4 : nd ≤ 4096 := by omega
  have HSZ := Lib.hid hsz
  clear hr0 hl3 hd4 hnd hsd hsz hbad
  have hw0 := (Gr.refl w).alloc (.cells #[.int .i64 7, .int .u8 c, .int .u8 m, .slice a1 np c1, .string s, .slice a2 nd c2] 34)
  have hb0 := heap_alloc_new w (.cells #[.int .i64 7, .int .u8 c, .int .u8 m, .slice a1 np c1, .string s, .slice a2 nd c2] 34)
  have hTl := blk_lt hb0
  go_enter Tryd.func48, Tryd.ntmps48
  go_wp2_with (first
    | (go_at_call 56; refine (hgr _ hw0).mono ?_; rintro e w2 ⟨rfl, hg2⟩; have hw2 := hw0.trans hg2; obtain ⟨t0, t1, t2, t3, t4, t5, tf⟩ := cells6 (hg2.blk hb0))
    | (go_at_call 57; refine (hcd _ hw2).mono ?_; rintro e w3 ⟨rfl, hg3⟩; have hw3 := hw2.trans hg3; obtain ⟨y0, y1, y2, y3, y4, y5, yf⟩ := cells6 ((hg2.trans hg3).blk hb0)))
  go_loopw [3] (fun g wr => ∃ (pos : Nat) (b : Bool), wr = w3.iter s pos ∧ g = .bool b ∧ IAt B l pos b) (fun _ wr => s.size - wr.iterPos w3.heap.size)
  case atStart => exact ⟨0, B, rfl, rfl, fun h => ⟨h, fun j hj => by omega⟩⟩
  case round =>
    obtain ⟨pos, b, rfl, rfl, hI⟩ := hrel
    have HI := Lib.hid hI; clear hI
    have hgI : Gr w3 (w3.iter s pos) := (Gr.refl w3).alloc _
    obtain ⟨v0, v1, v2, v3, v4, v5, vf⟩ := cells6 (((hg2.trans hg3).trans hgI).blk hb0)
    have hw4 := hw3.trans hgI
    have hlt4 := blk_lt (((hg2.trans hg3).trans hgI).blk hb0)
    clear t0 t1 t2 t3 t4 t5 tf y0 y1 y2 y3 y4 y5 yf
    by_cases hp : pos < s.size
    · by_cases ha : (s[pos]'hp).toNat < 128
      · obtain ⟨x, hx, hxs⟩ := HS.out pos hp
        have hnx : ∀ ty, (Instr.next (.pointer (some ⟨w3.heap.size, 0, none⟩)) true ty).run Tryd.prog (w3.iter s pos) = .ok (.tuple #[.bool true, .int .i64 pos, .int .i32 x]) (w3.iter s (pos + 1)) := fun ty => by
          rw [← hxs]; exact run_next_ascii w3 s pos ty hp ha
        have HX := Lib.hid hx
        clear hx hxs ha
        cases b
        · go_wp2_with fail
          go_roundw
          case rel => exact ⟨pos + 1, false, rfl, rfl, IAt.no⟩
          case measure => simp; omega
        · go_wp2_with (go_at_call 58; refine (inter_any x _).mono ?_; rintro e w5 ⟨rfl, rfl⟩)
          go_roundw
          case rel => exact ⟨pos + 1, _, rfl, rfl, HI.out.step HX.out⟩
          case measure => simp; omega
      · obtain ⟨r, n, hrn, hr128, hn1⟩ : ∃ r n : Nat, (∀ ty, (Instr.next (.pointer (some ⟨w3.heap.size, 0, none⟩)) true ty).run Tryd.prog (w3.iter s pos) = .ok (.tuple #[.bool true, .int .i64 pos, .int .i32 r]) (w3.iter s (pos + n))) ∧ 128 ≤ r ∧ 1 ≤ n :=
          ⟨_, _, fun ty => run_next_any w3 s pos ty hp, (decode_high s pos hp (by omega)).1, (decode_high s pos hp (by omega)).2⟩
        have hih := inter_high hr128
        have hin := fun w => inter_any (r : Int) w
        rw [hih] at hin
        clear ha hih hr128
        cases b
        · go_wp2_with fail
          go_roundw
          case rel => exact ⟨pos + n, false, rfl, rfl, IAt.no⟩
          case measure => simp; omega
        · go_wp2_with (go_at_call 58; refine (hin _).mono ?_; rintro e w5 ⟨rfl, rfl⟩)
          go_roundw
          case rel => exact ⟨pos + n, false, rfl, rfl, IAt.no⟩
          case measure => simp; omega
    · have hnx : ∀ ty, (Instr.next (.pointer (some ⟨w3.heap.size, 0, none⟩)) true ty).run Tryd.prog (w3.iter s pos) = _ := fun ty => run_next_end w3 s pos ty hp
      go_wp2_with fail
      go_loop [3, 35] (fun g i => ∃ (j : Nat) (b2 : Bool), j ≤ nd ∧ i = .int .i64 j ∧ g = .bool b2 ∧ DAt b d j b2) (fun _ i => nd - (intOf i).toNat)
      case atStart => exact ⟨0, b, Nat.zero_le _, rfl, rfl, fun h => ⟨h, by simp⟩⟩
      case round =>
        obtain ⟨j, b2, hj, rfl, rfl, hD⟩ := hrel
        have HD := Lib.hid hD; clear hD
        by_cases hlt : j < nd
        · obtain ⟨g1, p1, u1, hv1, hu1, hc1⟩ := (hr.gr hw4).at_ hlt
          injection hv1 with e1 e2 e3
          subst e1
          have hu := bcells_at' hu1
          subst hu
          obtain ⟨x, hxd⟩ : ∃ x, x = d.getD j 0 := ⟨_, rfl⟩
          have HXD := Lib.hid (show d[j]? = some x by rw [hxd, List.getD, List.getElem?_eq_getElem (by have := HN.out; omega)]; simp)
          rw [← hxd] at hc1
          have hjn : (j : Int) < (nd : Int) := by omega
          have j0 : (0 : Int) ≤ (j : Int) := by omega
          clear hxd hr hu1 e2 e3 hnx hgr hcd
          cases b2
          · go_wp2_with fail
            go_round
            case rel => exact ⟨j + 1, false, by omega, by go_num, rfl, DAt.no⟩
            case measure => simp [intOf]; omega
          · go_wp2_with (go_at_call 59; refine (data_any x _).mono ?_; rintro e w6 ⟨rfl, rfl⟩)
            go_round
            case rel => exact ⟨j + 1, _, by omega, by go_num, rfl, HD.out.step HXD.out⟩
            case measure => simp [intOf]; omega
        · have hjn : ¬ (j : Int) < (nd : Int) := by omega
          have HJ := Lib.hid (show j = nd by omega)
          have HPZ := Lib.hid hp
          have hwz := hw4
          clear hnx hgr hcd hr hp
          have hin := fun w => in_any m 60 63 w
          cases b2
          · by_cases hm : m = 0
            · subst hm
              go_wp2_with fail
              go_ret
              exact ⟨rfl, by (repeat (first | with_reducible exact Gr.refl _ | with_reducible assumption | with_reducible refine Gr.setCell ?_ (by simp; try omega) _ | with_reducible refine Gr.alloc ?_ _ | with_reducible refine Gr.drew ?_ | with_reducible refine Gr.drewN ?_ _ | with_reducible refine Gr.trans ?_ (by assumption)))⟩
            · have hmz : (m != 0) = true := by simpa using hm
              cases hi : inB m 60 63
              all_goals
                rw [hi] at hin
                go_wp2_with (go_at_call 60; refine (hin _).mono ?_; rintro e w8 ⟨rfl, rfl⟩)
                go_ret
                exact ⟨rfl, by (repeat (first | with_reducible exact Gr.refl _ | with_reducible assumption | with_reducible refine Gr.setCell ?_ (by simp; try omega) _ | with_reducible refine Gr.alloc ?_ _ | with_reducible refine Gr.drew ?_ | with_reducible refine Gr.drewN ?_ _ | with_reducible refine Gr.trans ?_ (by assumption)))⟩
          · have HG := Lib.hid (show b = true ∧ ∀ x ∈ d, dataOk x = true by
              obtain ⟨h1, h2⟩ := HD.out rfl
              exact ⟨h1, by rw [List.take_of_length_le (by have := HN.out; have := HJ.out; omega)] at h2; exact h2⟩)
            have HG2 := Lib.hid (show B = true ∧ ∀ x ∈ l, 32 ≤ x ∧ x ≤ 47 by
              obtain ⟨h1, h2⟩ := HI.out HG.out.1
              refine ⟨h1, fun x hx => ?_⟩
              obtain ⟨i, hi⟩ := List.getElem?_of_mem hx
              have hil := (List.getElem?_eq_some_iff.1 hi).1
              exact h2 i (by have := HPZ.out; have := HSZ.out; omega) x hi)
            have HR := Lib.hid (show (m ≠ 0 ∧ inB m 60 63 = false) ∨ (m ≠ 0 ∨ np ≠ 0 ∨ l ≠ []) by
              rcases HBAD.out with h | h | ⟨x, hx, h⟩ | ⟨x, hx, h⟩ | h
              · exact .inl h
              · rw [HG2.out.1] at h; cases h
              · exact absurd (HG2.out.2 x hx) h
              · rw [HG.out.2 x hx] at h; cases h
              · exact .inr h)
            by_cases hm : m = 0
            · subst hm
              have HBR := Lib.hid (HBO.out (by rcases HR.out with h | h
                                               · exact absurd rfl h.1
                                               · exact h))
              go_wp2_with (first
                | (go_at_call 60; refine (hin _).mono ?_; rintro e w8 ⟨rfl, rfl⟩)
                | (go_at_call 61; refine (HBR.out _).mono ?_; rintro e w7 ⟨rfl, hg7⟩))
              go_ret
              refine ⟨rfl, Gr.trans ?_ hg7⟩
              (repeat (first | with_reducible exact Gr.refl _ | with_reducible assumption | with_reducible refine Gr.setCell ?_ (by simp; try omega) _ | with_reducible refine Gr.alloc ?_ _ | with_reducible refine Gr.drew ?_ | with_reducible refine Gr.drewN ?_ _ | with_reducible refine Gr.trans ?_ (by assumption)))
            · have hmz : (m != 0) = true := by simpa using hm
              cases hi : inB m 60 63
              · rw [hi] at hin
                go_wp2_with (go_at_call 60; refine (hin _).mono ?_; rintro e w8 ⟨rfl, rfl⟩)
                go_ret
                exact ⟨rfl, by (repeat (first | with_reducible exact Gr.refl _ | with_reducible assumption | with_reducible refine Gr.setCell ?_ (by simp; try omega) _ | with_reducible refine Gr.alloc ?_ _ | with_reducible refine Gr.drew ?_ | with_reducible refine Gr.drewN ?_ _ | with_reducible refine Gr.trans ?_ (by assumption)))⟩
              · rw [hi] at hin
                have HBR := Lib.hid (HBO.out (by rcases HR.out with h | h
                                                 · rw [h.2] at hi; cases hi
                                                 · exact h))
                go_wp2_with (first
                  | (go_at_call 60; refine (hin _).mono ?_; rintro e w8 ⟨rfl, rfl⟩)
                  | (go_at_call 61; refine (HBR.out _).mono ?_; rintro e w7 ⟨rfl, hg7⟩))
                go_ret
                refine ⟨rfl, Gr.trans ?_ hg7⟩
                (repeat (first | with_reducible exact Gr.refl _ | with_reducible assumption | with_reducible refine Gr.setCell ?_ (by simp; try omega) _ | with_reducible refine Gr.alloc ?_ _ | with_reducible refine Gr.drew ?_ | with_reducible refine Gr.drewN ?_ _ | with_reducible refine Gr.trans ?_ (by assumption)))

set_option maxRecDepth 100000 in
set_option maxHeartbeats 2000000 in
theorem bad_8 {w : World} {c m : Int} {l d : List Int} {a1 a2 : Option Addr} {np c1 nd c2 : Nat} {B : Bool} (hr0 : ∀ c ∈ l, 0 ≤ c ∧ c < 256) (hl3 : l.length ≤ 3) (hd4 : d.length ≤ 4096) (hnd : nd = d.length) (hr : HasRow w 5 (.slice a2 nd c2) nd (bcells d))
    (hgr : ∀ w', Gr w w' → Calls Tryd.prog 56 #[.agg #[.int .i64 8, .int .u8 c, .int .u8 m, .slice a1 np c1, .string (strOf l), .slice a2 nd c2]] w' fun e w2 => e = .returned (.bool false) ∧ Gr w' w2)
    (hcd : ∀ w', Gr w w' → CodeIs w' 8 c m (strOf l) (.slice a1 np c1) (.slice a2 nd c2) B)
    (hbad : (m ≠ 0 ∧ inB m 60 63 = false) ∨ B = false ∨ (∃ x ∈ l, ¬ (32 ≤ x ∧ x ≤ 47)) ∨ (∃ x ∈ d, dataOk x = false) ∨ (m ≠ 0 ∨ np ≠ 0 ∨ l ≠ [])) : Checks3 w 8 c m l (.slice a1 np c1) (.slice a2 nd c2) := by
  unfold CodeIs at hcd
  have hsz := strOf_size l
  have HS : Hid (∀ k (hk : k < (strOf l).size), ∃ x, l[k]? = some x ∧ (((strOf l)[k]'hk).toNat : Int) = x) := Lib.hid fun k hk => strOf_at hr0 hk
  have HN := Lib.hid hnd
  have HBAD := Lib.hid hbad
  have HBO : Hid ((m ≠ 0 ∨ np ≠ 0 ∨ l ≠ []) → ∀ w', Calls Tryd.prog 61 #[.agg #[.int .i64 8, .int .u8 c, .int .u8 m, .slice a1 np c1, .string (strOf l), .slice none 0 0]] w' fun e w2 => e = .returned (.bool false) ∧ Gr w' w2) := Lib.hid fun h w' => bare_off _ _ _ _ _ _ _ _ _ _ _ (h.elim (fun h => .inl h) (fun h => h.elim (fun h => .inr (.inl h)) (fun h => .inr (.inr (.inl h)))))
  obtain ⟨s, hsd⟩ : ∃ s, s = strOf l := ⟨_, rfl⟩
  rw [← hsd] at hsz hgr hcd HS
  rw [← hsd] at HBO
  unfold Checks3
  rw [← hsd]
  have hss : s.size ≤ 3 := by omega
  have hnd4 : nd ≤ 4096 := by omega
  have HSZ := Lib.hid hsz
  clear hr0 hl3 hd4 hnd hsd hsz hbad
  have hw0 := (Gr.refl w).alloc (.cells #[.int .i64 8, .int .u8 c, .int .u8 m, .slice a1 np c1, .string s, .slice a2 nd c2] 34)
  have hb0 := heap_alloc_new w (.cells #[.int .i64 8, .int .u8 c, .int .u8 m, .slice a1 np c1, .string s, .slice a2 nd c2] 34)
  have hTl := blk_lt hb0
  go_enter Tryd.func48, Tryd.ntmps48
  go_wp2_with (first
    | (go_at_call 56; refine (hgr _ hw0).mono ?_; rintro e w2 ⟨rfl, hg2⟩; have hw2 := hw0.trans hg2; obtain ⟨t0, t1, t2, t3, t4, t5, tf⟩ := cells6 (hg2.blk hb0))
    | (go_at_call 57; refine (hcd _ hw2).mono ?_; rintro e w3 ⟨rfl, hg3⟩; have hw3 := hw2.trans hg3; obtain ⟨y0, y1, y2, y3, y4, y5, yf⟩ := cells6 ((hg2.trans hg3).blk hb0)))
  go_loopw [3] (fun g wr => ∃ (pos : Nat) (b : Bool), wr = w3.iter s pos ∧ g = .bool b ∧ IAt B l pos b) (fun _ wr => s.size - wr.iterPos w3.heap.size)
  case atStart => exact ⟨0, B, rfl, rfl, fun h => ⟨h, fun j hj => by omega⟩⟩
  case round =>
    obtain ⟨pos, b, rfl, rfl, hI⟩ := hrel
    have HI := Lib.hid hI; clear hI
    have hgI : Gr w3 (w3.iter s pos) := (Gr.refl w3).alloc _
    obtain ⟨v0, v1, v2, v3, v4, v5, vf⟩ := cells6 (((hg2.trans hg3).trans hgI).blk hb0)
    have hw4 := hw3.trans hgI
    have hlt4 := blk_lt (((hg2.trans hg3).trans hgI).blk hb0)
    clear t0 t1 t2 t3 t4 t5 tf y0 y1 y2 y3 y4 y5 yf
    by_cases hp : pos < s.size
    · by_cases ha : (s[pos]'hp).toNat < 128
      · obtain ⟨x, hx, hxs⟩ := HS.out pos hp
        have hnx : ∀ ty, (Instr.next (.pointer (some ⟨w3.heap.size, 0, none⟩)) true ty).run Tryd.prog (w3.iter s pos) = .ok (.tuple #[.bool true, .int .i64 pos, .int .i32 x]) (w3.iter s (pos + 1)) := fun ty => by
          rw [← hxs]; exact run_next_ascii w3 s pos ty hp ha
        have HX := Lib.hid hx
        clear hx hxs ha
        cases b
        · go_wp2_with fail
          go_roundw
          case rel => exact ⟨pos + 1, false, rfl, rfl, IAt.no⟩
          case measure => simp; omega
        · go_wp2_with (go_at_call 58; refine (inter_any x _).mono ?_; rintro e w5 ⟨rfl, rfl⟩)
          go_roundw
          case rel => exact ⟨pos + 1, _, rfl, rfl, HI.out.step HX.out⟩
          case measure => simp; omega
      · obtain ⟨r, n, hrn, hr128, hn1⟩ : ∃ r n : Nat, (∀ ty, (Instr.next (.pointer (some ⟨w3.heap.size, 0, none⟩)) true ty).run Tryd.prog (w3.iter s pos) = .ok (.tuple #[.bool true, .int .i64 pos, .int .i32 r]) (w3.iter s (pos + n))) ∧ 128 ≤ r ∧ 1 ≤ n :=
          ⟨_, _, fun ty => run_next_any w3 s pos ty hp, (decode_high s pos hp (by omega)).1, (decode_high s pos hp (by omega)).2⟩
        have hih := inter_high hr128
        have hin := fun w => inter_any (r : Int) w
        rw [hih] at hin
        clear ha hih hr128
        cases b
        · go_wp2_with fail
          go_roundw
          case rel => exact ⟨pos + n, false, rfl, rfl, IAt.no⟩
          case measure => simp; omega
        · go_wp2_with (go_at_call 58; refine (hin _).mono ?_; rintro e w5 ⟨rfl, rfl⟩)
          go_roundw
          case rel => exact ⟨pos + n, false, rfl, rfl, IAt.no⟩
          case measure => simp; omega
    · have hnx : ∀ ty, (Instr.next (.pointer (some ⟨w3.heap.size, 0, none⟩)) true ty).run Tryd.prog (w3.iter s pos) = _ := fun ty => run_next_end w3 s pos ty hp
      go_wp2_with fail
      go_loop [3, 35] (fun g i => ∃ (j : Nat) (b2 : Bool), j ≤ nd ∧ i = .int .i64 j ∧ g = .bool b2 ∧ DAt b d j b2) (fun _ i => nd - (intOf i).toNat)
      case atStart => exact ⟨0, b, Nat.zero_le _, rfl, rfl, fun h => ⟨h, by simp⟩⟩
      case round =>
        obtain ⟨j, b2, hj, rfl, rfl, hD⟩ := hrel
        have HD := Lib.hid hD; clear hD
        by_cases hlt : j < nd
        · obtain ⟨g1, p1, u1, hv1, hu1, hc1⟩ := (hr.gr hw4).at_ hlt
          injection hv1 with e1 e2 e3
          subst e1
          have hu := bcells_at' hu1
          subst hu
          obtain ⟨x, hxd⟩ : ∃ x, x = d.getD j 0 := ⟨_, rfl⟩
          have HXD := Lib.hid (show d[j]? = some x by rw [hxd, List.getD, List.getElem?_eq_getElem (by have := HN.out; omega)]; simp)
          rw [← hxd] at hc1
          have hjn : (j : Int) < (nd : Int) := by omega
          have j0 : (0 : Int) ≤ (j : Int) := by omega
          clear hxd hr hu1 e2 e3 hnx hgr hcd
          cases b2
          · go_wp2_with fail
            go_round
            case rel => exact ⟨j + 1, false, by omega, by go_num, rfl, DAt.no⟩
            case measure => simp [intOf]; omega
          · go_wp2_with (go_at_call 59; refine (data_any x _).mono ?_; rintro e w6 ⟨rfl, rfl⟩)
            go_round
            case rel => exact ⟨j + 1, _, by omega, by go_num, rfl, HD.out.step HXD.out⟩
            case measure => simp [intOf]; omega
        · have hjn : ¬ (j : Int) < (nd : Int) := by omega
          have HJ := Lib.hid (show j = nd by omega)
          have HPZ := Lib.hid hp
          have hwz := hw4
          clear hnx hgr hcd hr hp
          have hin := fun w => in_any m 60 63 w
          cases b2
          · by_cases hm : m = 0
            · subst hm
              go_wp2_with fail
              go_ret
              exact ⟨rfl, by (repeat (first | with_reducible exact Gr.refl _ | with_reducible assumption | with_reducible refine Gr.setCell ?_ (by simp; try omega) _ | with_reducible refine Gr.alloc ?_ _ | with_reducible refine Gr.drew ?_ | with_reducible refine Gr.drewN ?_ _ | with_reducible refine Gr.trans ?_ (by assumption)))⟩
            · have hmz : (m != 0) = true := by simpa using hm
              cases hi : inB m 60 63
              all_goals
                rw [hi] at hin
                go_wp2_with (go_at_call 60; refine (hin _).mono ?_; rintro e w8 ⟨rfl, rfl⟩)
                go_ret
                exact ⟨rfl, by (repeat (first | with_reducible exact Gr.refl _ | with_reducible assumption | with_reducible refine Gr.setCell ?_ (by simp; try omega) _ | with_reducible refine Gr.alloc ?_ _ | with_reducible refine Gr.drew ?_ | with_reducible refine Gr.drewN ?_ _ | with_reducible refine Gr.trans ?_ (by assumption)))⟩
          · have HG := Lib.hid (show b = true ∧ ∀ x ∈ d, dataOk x = true by
              obtain ⟨h1, h2⟩ := HD.out rfl
              exact ⟨h1, by rw [List.take_of_length_le (by have := HN.out; have := HJ.out; omega)] at h2; exact h2⟩)
            have HG2 := Lib.hid (show B = true ∧ ∀ x ∈ l, 32 ≤ x ∧ x ≤ 47 by
              obtain ⟨h1, h2⟩ := HI.out HG.out.1
              refine ⟨h1, fun x hx => ?_⟩
              obtain ⟨i, hi⟩ := List.getElem?_of_mem hx
              have hil := (List.getElem?_eq_some_iff.1 hi).1
              exact h2 i (by have := HPZ.out; have := HSZ.out; omega) x hi)
            have HR := Lib.hid (show (m ≠ 0 ∧ inB m 60 63 = false) ∨ (m ≠ 0 ∨ np ≠ 0 ∨ l ≠ []) by
              rcases HBAD.out with h | h | ⟨x, hx, h⟩ | ⟨x, hx, h⟩ | h
              · exact .inl h
              · rw [HG2.out.1] at h; cases h
              · exact absurd (HG2.out.2 x hx) h
              · rw [HG.out.2 x hx] at h; cases h
              · exact .inr h)
            by_cases hm : m = 0
            · subst hm
              have HBR := Lib.hid (HBO.out (by rcases HR.out with h | h
                                               · exact absurd rfl h.1
                                               · exact h))
              go_wp2_with (first
                | (go_at_call 60; refine (hin _).mono ?_; rintro e w8 ⟨rfl, rfl⟩)
                | (go_at_call 61; refine (HBR.out _).mono ?_; rintro e w7 ⟨rfl, hg7⟩))
              go_ret
              refine ⟨rfl, Gr.trans ?_ hg7⟩
              (repeat (first | with_reducible exact Gr.refl _ | with_reducible assumption | with_reducible refine Gr.setCell ?_ (by simp; try omega) _ | with_reducible refine Gr.alloc ?_ _ | with_reducible refine Gr.drew ?_ | with_reducible refine Gr.drewN ?_ _ | with_reducible refine Gr.trans ?_ (by assumption)))
            · have hmz : (m != 0) = true := by simpa using hm
              cases hi : inB m 60 63
              · rw [hi] at hin
                go_wp2_with (go_at_call 60; refine (hin _).mono ?_; rintro e w8 ⟨rfl, rfl⟩)
                go_ret
                exact ⟨rfl, by (repeat (first | with_reducible exact Gr.refl _ | with_reducible assumption | with_reducible refine Gr.setCell ?_ (by simp; try omega) _ | with_reducible refine Gr.alloc ?_ _ | with_reducible refine Gr.drew ?_ | with_reducible refine Gr.drewN ?_ _ | with_reducible refine Gr.trans ?_ (by assumption)))⟩
              · rw [hi] at hin
                have HBR := Lib.hid (HBO.out (by rcases HR.out with h | h
                                                 · rw [h.2] at hi; cases hi
                                                 · exact h))
                go_wp2_with (first
                  | (go_at_call 60; refine (hin _).mono ?_; rintro e w8 ⟨rfl, rfl⟩)
                  | (go_at_call 61; refine (HBR.out _).mono ?_; rintro e w7 ⟨rfl, hg7⟩))
                go_ret
                refine ⟨rfl, Gr.trans ?_ hg7⟩
                (repeat (first | with_reducible exact Gr.refl _ | with_reducible assumption | with_reducible refine Gr.setCell ?_ (by simp; try omega) _ | with_reducible refine Gr.alloc ?_ _ | with_reducible refine Gr.drew ?_ | with_reducible refine Gr.drewN ?_ _ | with_reducible refine Gr.trans ?_ (by assumption)))

set_option maxRecDepth 100000 in
set_option maxHeartbeats 2000000 in
theorem bad_9 {w : World} {c m : Int} {l d : List Int} {a1 a2 : Option Addr} {np c1 nd c2 : Nat} {B : Bool} (hr0 : ∀ c ∈ l, 0 ≤ c ∧ c < 256) (hl3 : l.length ≤ 3) (hd4 : d.length ≤ 4096) (hnd : nd = d.length) (hr : HasRow w 5 (.slice a2 nd c2) nd (bcells d))
    (hgr : ∀ w', Gr w w' → Calls Tryd.prog 56 #[.agg #[.int .i64 9, .int .u8 c, .int .u8 m, .slice a1 np c1, .string (strOf l), .slice a2 nd c2]] w' fun e w2 => e = .returned (.bool false) ∧ Gr w' w2)
    (hcd : ∀ w', Gr w w' → CodeIs w' 9 c m (strOf l) (.slice a1 np c1) (.slice a2 nd c2) B)
    (hbad : (m ≠ 0 ∧ inB m 60 63 = false) ∨ B = false ∨ (∃ x ∈ l, ¬ (32 ≤ x ∧ x ≤ 47)) ∨ (∃ x ∈ d, dataOk x = false) ∨ (m ≠ 0 ∨ np ≠ 0 ∨ l ≠ [])) : Checks3 w 9 c m l (.slice a1 np c1) (.slice a2 nd c2) := by
  unfold CodeIs at hcd
  have hsz := strOf_size l
  have HS : Hid (∀ k (hk : k < (strOf l).size), ∃ x, l[k]? = some x ∧ (((strOf l)[k]'hk).toNat : Int) = x) := Lib.hid fun k hk => strOf_at hr0 hk
  have HN := Lib.hid hnd
  have HBAD := Lib.hid hbad
  have HBO : Hid ((m ≠ 0 ∨ np ≠ 0 ∨ l ≠ []) → ∀ w', Calls Tryd.prog 61 #[.agg #[.int .i64 9, .int .u8 c, .int .u8 m, .slice a1 np c1, .string (strOf l), .slice none 0 0]] w' fun e w2 => e = .returned (.bool false) ∧ Gr w' w2) := Lib.hid fun h w' => bare_off _ _ _ _ _ _ _ _ _ _ _ (h.elim (fun h => .inl h) (fun h => h.elim (fun h => .inr (.inl h)) (fun h => .inr (.inr (.inl h)))))
  obtain ⟨s, hsd⟩ : ∃ s, s = strOf l := ⟨_, rfl⟩
  rw [← hsd] at hsz hgr hcd HS
  rw [← hsd] at HBO
  unfold Checks3
  rw [← hsd]
  have hss : s.size ≤ 3 := by omega
  have hnd4 : nd ≤ 4096 := by omega
  have HSZ := Lib.hid hsz
  clear hr0 hl3 hd4 hnd hsd hsz hbad
  have hw0 := (Gr.refl w).alloc (.cells #[.int .i64 9, .int .u8 c, .int .u8 m, .slice a1 np c1, .string s, .slice a2 nd c2] 34)
  have hb0 := heap_alloc_new w (.cells #[.int .i64 9, .int .u8 c, .int .u8 m, .slice a1 np c1, .string s, .slice a2 nd c2] 34)
  have hTl := blk_lt hb0
  go_enter Tryd.func48, Tryd.ntmps48
  go_wp2_with (first
    | (go_at_call 56; refine (hgr _ hw0).mono ?_; rintro e w2 ⟨rfl, hg2⟩; have hw2 := hw0.trans hg2; obtain ⟨t0, t1, t2, t3, t4, t5, tf⟩ := cells6 (hg2.blk hb0))
    | (go_at_call 57; refine (hcd _ hw2).mono ?_; rintro e w3 ⟨rfl, hg3⟩; have hw3 := hw2.trans hg3; obtain ⟨y0, y1, y2, y3, y4, y5, yf⟩ := cells6 ((hg2.trans hg3).blk hb0)))
  go_loopw [3] (fun g wr => ∃ (pos : Nat) (b : Bool), wr = w3.iter s pos ∧ g = .bool b ∧ IAt B l pos b) (fun _ wr => s.size - wr.iterPos w3.heap.size)
  case atStart => exact ⟨0, B, rfl, rfl, fun h => ⟨h, fun j hj => by omega⟩⟩
  case round =>
    obtain ⟨pos, b, rfl, rfl, hI⟩ := hrel
    have HI := Lib.hid hI; clear hI
    have hgI : Gr w3 (w3.iter s pos) := (Gr.refl w3).alloc _
    obtain ⟨v0, v1, v2, v3, v4, v5, vf⟩ := cells6 (((hg2.trans hg3).trans hgI).blk hb0)
    have hw4 := hw3.trans hgI
    have hlt4 := blk_lt (((hg2.trans hg3).trans hgI).blk hb0)
    clear t0 t1 t2 t3 t4 t5 tf y0 y1 y2 y3 y4 y5 yf
    by_cases hp : pos < s.size
    · by_cases ha : (s[pos]'hp).toNat < 128
      · obtain ⟨x, hx, hxs⟩ := HS.out pos hp
        have hnx : ∀ ty, (Instr.next (.pointer (some ⟨w3.heap.size, 0, none⟩)) true ty).run Tryd.prog (w3.iter s pos) = .ok (.tuple #[.bool true, .int .i64 pos, .int .i32 x]) (w3.iter s (pos + 1)) := fun ty => by
          rw [← hxs]; exact run_next_ascii w3 s pos ty hp ha
        have HX := Lib.hid hx
        clear hx hxs ha
        cases b
        · go_wp2_with fail
          go_roundw
          case rel => exact ⟨pos + 1, false, rfl, rfl, IAt.no⟩
          case measure => simp; omega
        · go_wp2_with (go_at_call 58; refine (inter_any x _).mono ?_; rintro e w5 ⟨rfl, rfl⟩)
          go_roundw
          case rel => exact ⟨pos + 1, _, rfl, rfl, HI.out.step HX.out⟩
          case measure => simp; omega
      · obtain ⟨r, n, hrn, hr128, hn1⟩ : ∃ r n : Nat, (∀ ty, (Instr.next (.pointer (some ⟨w3.heap.size, 0, none⟩)) true ty).run Tryd.prog (w3.iter s pos) = .ok (.tuple #[.bool true, .int .i64 pos, .int .i32 r]) (w3.iter s (pos + n))) ∧ 128 ≤ r ∧ 1 ≤ n :=
          ⟨_, _, fun ty => run_next_any w3 s pos ty hp, (decode_high s pos hp (by omega)).1, (decode_high s pos hp (by omega)).2⟩
        have hih := inter_high hr128
        have hin := fun w => inter_any (r : Int) w
        rw [hih] at hin
        clear ha hih hr128
        cases b
        · go_wp2_with fail
          go_roundw
          case rel => exact ⟨pos + n, false, rfl, rfl, IAt.no⟩
          case measure => simp; omega
        · go_wp2_with (go_at_call 58; refine (hin _).mono ?_; rintro e w5 ⟨rfl, rfl⟩)
          go_roundw
          case rel => exact ⟨pos + n, false, rfl, rfl, IAt.no⟩
          case measure => simp; omega
    · have hnx : ∀ ty, (Instr.next (.pointer (some ⟨w3.heap.size, 0, none⟩)) true ty).run Tryd.prog (w3.iter s pos) = _ := fun ty => run_next_end w3 s pos ty hp
      go_wp2_with fail
      go_loop [3, 35] (fun g i => ∃ (j : Nat) (b2 : Bool), j ≤ nd ∧ i = .int .i64 j ∧ g = .bool b2 ∧ DAt b d j b2) (fun _ i => nd - (intOf i).toNat)
      case atStart => exact ⟨0, b, Nat.zero_le _, rfl, rfl, fun h => ⟨h, by simp⟩⟩
      case round =>
        obtain ⟨j, b2, hj, rfl, rfl, hD⟩ := hrel
        have HD := Lib.hid hD; clear hD
        by_cases hlt : j < nd
        · obtain ⟨g1, p1, u1, hv1, hu1, hc1⟩ := (hr.gr hw4).at_ hlt
          injection hv1 with e1 e2 e3
          subst e1
          have hu := bcells_at' hu1
          subst hu
          obtain ⟨x, hxd⟩ : ∃ x, x = d.getD j 0 := ⟨_, rfl⟩
          have HXD := Lib.hid (show d[j]? = some x by rw [hxd, List.getD, List.getElem?_eq_getElem (by have := HN.out; omega)]; simp)
          rw [← hxd] at hc1
          have hjn : (j : Int) < (nd : Int) := by omega
          have j0 : (0 : Int) ≤ (j : Int) := by omega
          clear hxd hr hu1 e2 e3 hnx hgr hcd
          cases b2
          · go_wp2_with fail
            go_round
            case rel => exact ⟨j + 1, false, by omega, by go_num, rfl, DAt.no⟩
            case measure => simp [intOf]; omega
          · go_wp2_with (go_at_call 59; refine (data_any x _).mono ?_; rintro e w6 ⟨rfl, rfl⟩)
            go_round
            case rel => exact ⟨j + 1, _, by omega, by go_num, rfl, HD.out.step HXD.out⟩
            case measure => simp [intOf]; omega
        · have hjn : ¬ (j : Int) < (nd : Int) := by omega
          have HJ := Lib.hid (show j = nd by omega)
          have HPZ := Lib.hid hp
          have hwz := hw4
          clear hnx hgr hcd hr hp
          have hin := fun w => in_any m 60 63 w
          cases b2
          · by_cases hm : m = 0
            · subst hm
              go_wp2_with fail
              go_ret
              exact ⟨rfl, by (repeat (first | with_reducible exact Gr.refl _ | with_reducible assumption | with_reducible refine Gr.setCell ?_ (by simp; try omega) _ | with_reducible refine Gr.alloc ?_ _ | with_reducible refine Gr.drew ?_ | with_reducible refine Gr.drewN ?_ _ | with_reducible refine Gr.trans ?_ (by assumption)))⟩
            · have hmz : (m != 0) = true := by simpa using hm
              cases hi : inB m 60 63
              all_goals
                rw [hi] at hin
                go_wp2_with (go_at_call 60; refine (hin _).mono ?_; rintro e w8 ⟨rfl, rfl⟩)
                go_ret
                exact ⟨rfl, by (repeat (first | with_reducible exact Gr.refl _ | with_reducible assumption | with_reducible refine Gr.setCell ?_ (by simp; try omega) _ | with_reducible refine Gr.alloc ?_ _ | with_reducible refine Gr.drew ?_ | with_reducible refine Gr.drewN ?_ _ | with_reducible refine Gr.trans ?_ (by assumption)))⟩
          · have HG := Lib.hid (show b = true ∧ ∀ x ∈ d, dataOk x = true by
              obtain ⟨h1, h2⟩ := HD.out rfl
              exact ⟨h1, by rw [List.take_of_length_le (by have := HN.out; have := HJ.out; omega)] at h2; exact h2⟩)
            have HG2 := Lib.hid (show B = true ∧ ∀ x ∈ l, 32 ≤ x ∧ x ≤ 47 by
              obtain ⟨h1, h2⟩ := HI.out HG.out.1
              refine ⟨h1, fun x hx => ?_⟩
              obtain ⟨i, hi⟩ := List.getElem?_of_mem hx
              have hil := (List.getElem?_eq_some_iff.1 hi).1
              exact h2 i (by have := HPZ.out; have := HSZ.out; omega) x hi)
            have HR := Lib.hid (show (m ≠ 0 ∧ inB m 60 63 = false) ∨ (m ≠ 0 ∨ np ≠ 0 ∨ l ≠ []) by
              rcases HBAD.out with h | h | ⟨x, hx, h⟩ | ⟨x, hx, h⟩ | h
              · exact .inl h
              · rw [HG2.out.1] at h; cases h
              · exact absurd (HG2.out.2 x hx) h
              · rw [HG.out.2 x hx] at h; cases h
              · exact .inr h)
            by_cases hm : m = 0
            · subst hm
              have HBR := Lib.hid (HBO.out (by rcases HR.out with h | h
                                               · exact absurd rfl h.1
                                               · exact h))
              go_wp2_with (first
                | (go_at_call 60; refine (hin _).mono ?_; rintro e w8 ⟨rfl, rfl⟩)
                | (go_at_call 61; refine (HBR.out _).mono ?_; rintro e w7 ⟨rfl, hg7⟩))
              go_ret
              refine ⟨rfl, Gr.trans ?_ hg7⟩
              (repeat (first | with_reducible exact Gr.refl _ | with_reducible assumption | with_reducible refine Gr.setCell ?_ (by simp; try omega) _ | with_reducible refine Gr.alloc ?_ _ | with_reducible refine Gr.drew ?_ | with_reducible refine Gr.drewN ?_ _ | with_reducible refine Gr.trans ?_ (by assumption)))
            · have hmz : (m != 0) = true := by simpa using hm
              cases hi : inB m 60 63
              · rw [hi] at hin
                go_wp2_with (go_at_call 60; refine (hin _).mono ?_; rintro e w8 ⟨rfl, rfl⟩)
                go_ret
                exact ⟨rfl, by (repeat (first | with_reducible exact Gr.refl _ | with_reducible assumption | with_reducible refine Gr.setCell ?_ (by simp; try omega) _ | with_reducible refine Gr.alloc ?_ _ | with_reducible refine Gr.drew ?_ | with_reducible refine Gr.drewN ?_ _ | with_reducible refine Gr.trans ?_ (by assumption)))⟩
              · rw [hi] at hin
                have HBR := Lib.hid (HBO.out (by rcases HR.out with h | h
                                                 · rw [h.2] at hi; cases hi
                                                 · exact h))
                go_wp2_with (first
                  | (go_at_call 60; refine (hin _).mono ?_; rintro e w8 ⟨rfl, rfl⟩)
                  | (go_at_call 61; refine (HBR.out _).mono ?_; rintro e w7 ⟨rfl, hg7⟩))
                go_ret
                refine ⟨rfl, Gr.trans ?_ hg7⟩
                (repeat (first | with_reducible exact Gr.refl _ | with_reducible assumption | with_reducible refine Gr.setCell ?_ (by simp; try omega) _ | with_reducible refine Gr.alloc ?_ _ | with_reducible refine Gr.drew ?_ | with_reducible refine Gr.drewN ?_ _ | with_reducible refine Gr.trans ?_ (by assumption)))
end Go.Proofs.YtnnhaenmoifplaaDoor
