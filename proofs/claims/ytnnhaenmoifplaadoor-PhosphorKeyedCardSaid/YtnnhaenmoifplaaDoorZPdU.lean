/-
  A token that can be is found so: token.Check, walked kind by kind.
-/
import Derived.Test.YtnnhaenmoifplaaDoorZPdT
namespace Go.Proofs.YtnnhaenmoifplaaDoor
set_option linter.unusedSimpArgs false
set_option linter.unusedVariables false
open Go.RowKit

theorem strOf_at {l : List Int} (hr : ∀ c ∈ l, 0 ≤ c ∧ c < 256) {k : Nat} (hk : k < (strOf l).size) : ∃ x, l[k]? = some x ∧ (((strOf l)[k]'hk).toNat : Int) = x := by
  have h1 := bl_get (strOf l) k hk
  rw [bl_strOf l hr] at h1
  exact ⟨_, h1, rfl⟩
theorem bcells_at' {l : List Int} {k : Nat} {u : Value} (h : (bcells l)[k]? = some u) : u = .int .u8 (l.getD k 0) := by
  simp only [bcells, List.getElem?_map] at h
  rcases hx : l[k]? with _ | x
  · rw [hx] at h; cases h
  · rw [hx] at h; simp at h; simp [List.getD, hx, h]
/-- What Check is told of a token, and what it says. -/
def Checks (w : World) (k c m : Int) (l : List Int) (v1 v2 : Value) : Prop :=
  Calls Tryd.prog 48 #[.agg #[.int .i64 k, .int .u8 c, .int .u8 m, v1, .string (strOf l), v2]] w fun e w' => e = .returned (.int .i64 0) ∧ Gr w w'

set_option maxRecDepth 100000 in
set_option maxHeartbeats 2000000 in
theorem check_1 {w : World} {c m : Int} {l d : List Int} {a1 a2 : Option Addr} {np c1 nd c2 : Nat} (hl : IntsOk l) (hd : DatOk d) (hm : MarkOk m) (hnd : nd = d.length) (hr : HasRow w 5 (.slice a2 nd c2) nd (bcells d))
    (hgr : ∀ w', Gr w w' → Calls Tryd.prog 56 #[.agg #[.int .i64 1, .int .u8 c, .int .u8 m, .slice a1 np c1, .string (strOf l), .slice a2 nd c2]] w' fun e w2 => e = .returned (.bool false) ∧ Gr w' w2)
    (hcd : ∀ w', Gr w w' → Calls Tryd.prog 57 #[.agg #[.int .i64 1, .int .u8 c, .int .u8 m, .slice a1 np c1, .string (strOf l), .slice a2 nd c2]] w' fun e w2 => e = .returned (.bool true) ∧ Gr w' w2)
    (hm0 : m = 0) (hp0 : np = 0) (hd0 : d = []) (hnd0 : nd = 0) (hl0 : l = []) : Checks w 1 c m l (.slice a1 np c1) (.slice a2 nd c2) := by
  have hsz := strOf_size l
  have hlr : ∀ c ∈ l, 0 ≤ c ∧ c < 256 := fun c hc => by have := hl.2 c hc; omega
  have hl3 := hl.1
  have hd4 := hd.1
  have HL := Lib.hid hl.2; have HD := Lib.hid hd.2; have HS : Hid (∀ k (hk : k < (strOf l).size), ∃ x, l[k]? = some x ∧ (((strOf l)[k]'hk).toNat : Int) = x) := Lib.hid fun k hk => strOf_at hlr hk
  have HN := Lib.hid hnd
  have hs0 : strOf l = ⟨#[]⟩ := by rw [hl0]; rfl
  obtain ⟨s, hsd⟩ : ∃ s, s = strOf l := ⟨_, rfl⟩
  unfold Checks
  rw [← hsd] at hsz hgr hcd HS hs0 ⊢
  have hss : s.size ≤ 3 := by omega
  have hnd4 : nd ≤ 4096 := by omega
  have HSZ := Lib.hid hsz
  clear hl hd hlr hl3 hd4 hnd hsd hsz
  subst hm0
  subst hp0
  subst hnd0
  subst hs0
  have hw0 := (Gr.refl w).alloc (.cells #[.int .i64 1, .int .u8 c, .int .u8 0, .slice a1 0 c1, .string ⟨#[]⟩, .slice a2 0 c2] 34)
  have hb0 := heap_alloc_new w (.cells #[.int .i64 1, .int .u8 c, .int .u8 0, .slice a1 0 c1, .string ⟨#[]⟩, .slice a2 0 c2] 34)
  have hTl := blk_lt hb0
  go_enter Tryd.func48, Tryd.ntmps48
  go_wp2_with (first
    | (go_at_call 56; refine (hgr _ hw0).mono ?_; rintro e w2 ⟨rfl, hg2⟩; have hw2 := hw0.trans hg2; obtain ⟨t0, t1, t2, t3, t4, t5, tf⟩ := cells6 (hg2.blk hb0))
    | (go_at_call 57; refine (hcd _ hw2).mono ?_; rintro e w3 ⟨rfl, hg3⟩; have hw3 := hw2.trans hg3; obtain ⟨y0, y1, y2, y3, y4, y5, yf⟩ := cells6 ((hg2.trans hg3).blk hb0)))
  go_loopw [3] (fun g wr => ∃ pos : Nat, pos ≤ 0 ∧ wr = w3.iter ⟨#[]⟩ pos ∧ g = .bool true) (fun _ wr => 0 - wr.iterPos w3.heap.size)
  case atStart => exact ⟨0, Nat.zero_le _, rfl, rfl⟩
  case round =>
    obtain ⟨pos, hpos, rfl, rfl⟩ := hrel
    have hgI : Gr w3 (w3.iter ⟨#[]⟩ pos) := (Gr.refl w3).alloc _
    obtain ⟨v0, v1, v2, v3, v4, v5, vf⟩ := cells6 (((hg2.trans hg3).trans hgI).blk hb0)
    have hw4 := hw3.trans hgI
    have hlt4 := blk_lt (((hg2.trans hg3).trans hgI).blk hb0)
    clear t0 t1 t2 t3 t4 t5 tf y0 y1 y2 y3 y4 y5 yf
    · have hnx : ∀ ty, (Instr.next (.pointer (some ⟨w3.heap.size, 0, none⟩)) true ty).run Tryd.prog (w3.iter ⟨#[]⟩ pos) = _ := fun ty => run_next_end w3 ⟨#[]⟩ pos ty (by show ¬ pos < 0; omega)
      go_wp2_with fail
      go_loop [3, 35] (fun g i => ∃ j : Nat, j ≤ 0 ∧ i = .int .i64 j ∧ g = .bool true) (fun _ i => 0 - (intOf i).toNat)
      case atStart => exact ⟨0, Nat.zero_le _, rfl, rfl⟩
      case round =>
        obtain ⟨j, hj, rfl, rfl⟩ := hrel
        · have hjn : ¬ (j : Int) < 0 := by omega
          clear hnx hgr hcd hr
          go_wp2_with (first
            | (go_at_call 61; refine (bare_true _ _ _ _ _ _ _).mono ?_; rintro e w7 ⟨rfl, hg7⟩)
            | (go_at_call 60; refine (in_true m 60 63 _ (by omega) (by omega)).mono ?_; rintro e w8 ⟨rfl, rfl⟩))
          go_ret
          refine ⟨rfl, Gr.trans ?_ hg7⟩
          (repeat (first | with_reducible exact Gr.refl _ | with_reducible assumption | with_reducible refine Gr.setCell ?_ (by simp; try omega) _ | with_reducible refine Gr.alloc ?_ _ | with_reducible refine Gr.drew ?_ | with_reducible refine Gr.drewN ?_ _ | with_reducible refine Gr.trans ?_ (by assumption)))

set_option maxRecDepth 100000 in
set_option maxHeartbeats 2000000 in
theorem check_2 {w : World} {c m : Int} {l d : List Int} {a1 a2 : Option Addr} {np c1 nd c2 : Nat} (hl : IntsOk l) (hd : DatOk d) (hm : MarkOk m) (hnd : nd = d.length) (hr : HasRow w 5 (.slice a2 nd c2) nd (bcells d))
    (hgr : ∀ w', Gr w w' → Calls Tryd.prog 56 #[.agg #[.int .i64 2, .int .u8 c, .int .u8 m, .slice a1 np c1, .string (strOf l), .slice a2 nd c2]] w' fun e w2 => e = .returned (.bool false) ∧ Gr w' w2)
    (hcd : ∀ w', Gr w w' → Calls Tryd.prog 57 #[.agg #[.int .i64 2, .int .u8 c, .int .u8 m, .slice a1 np c1, .string (strOf l), .slice a2 nd c2]] w' fun e w2 => e = .returned (.bool true) ∧ Gr w' w2)
    (hm0 : m = 0) (hp0 : np = 0) (hd0 : d = []) (hnd0 : nd = 0) (hl0 : l = []) : Checks w 2 c m l (.slice a1 np c1) (.slice a2 nd c2) := by
  have hsz := strOf_size l
  have hlr : ∀ c ∈ l, 0 ≤ c ∧ c < 256 := fun c hc => by have := hl.2 c hc; omega
  have hl3 := hl.1
  have hd4 := hd.1
  have HL := Lib.hid hl.2; have HD := Lib.hid hd.2; have HS : Hid (∀ k (hk : k < (strOf l).size), ∃ x, l[k]? = some x ∧ (((strOf l)[k]'hk).toNat : Int) = x) := Lib.hid fun k hk => strOf_at hlr hk
  have HN := Lib.hid hnd
  have hs0 : strOf l = ⟨#[]⟩ := by rw [hl0]; rfl
  obtain ⟨s, hsd⟩ : ∃ s, s = strOf l := ⟨_, rfl⟩
  unfold Checks
  rw [← hsd] at hsz hgr hcd HS hs0 ⊢
  have hss : s.size ≤ 3 := by omega
  have hnd4 : nd ≤ 4096 := by omega
  have HSZ := Lib.hid hsz
  clear hl hd hlr hl3 hd4 hnd hsd hsz
  subst hm0
  subst hp0
  subst hnd0
  subst hs0
  have hw0 := (Gr.refl w).alloc (.cells #[.int .i64 2, .int .u8 c, .int .u8 0, .slice a1 0 c1, .string ⟨#[]⟩, .slice a2 0 c2] 34)
  have hb0 := heap_alloc_new w (.cells #[.int .i64 2, .int .u8 c, .int .u8 0, .slice a1 0 c1, .string ⟨#[]⟩, .slice a2 0 c2] 34)
  have hTl := blk_lt hb0
  go_enter Tryd.func48, Tryd.ntmps48
  go_wp2_with (first
    | (go_at_call 56; refine (hgr _ hw0).mono ?_; rintro e w2 ⟨rfl, hg2⟩; have hw2 := hw0.trans hg2; obtain ⟨t0, t1, t2, t3, t4, t5, tf⟩ := cells6 (hg2.blk hb0))
    | (go_at_call 57; refine (hcd _ hw2).mono ?_; rintro e w3 ⟨rfl, hg3⟩; have hw3 := hw2.trans hg3; obtain ⟨y0, y1, y2, y3, y4, y5, yf⟩ := cells6 ((hg2.trans hg3).blk hb0)))
  go_loopw [3] (fun g wr => ∃ pos : Nat, pos ≤ 0 ∧ wr = w3.iter ⟨#[]⟩ pos ∧ g = .bool true) (fun _ wr => 0 - wr.iterPos w3.heap.size)
  case atStart => exact ⟨0, Nat.zero_le _, rfl, rfl⟩
  case round =>
    obtain ⟨pos, hpos, rfl, rfl⟩ := hrel
    have hgI : Gr w3 (w3.iter ⟨#[]⟩ pos) := (Gr.refl w3).alloc _
    obtain ⟨v0, v1, v2, v3, v4, v5, vf⟩ := cells6 (((hg2.trans hg3).trans hgI).blk hb0)
    have hw4 := hw3.trans hgI
    have hlt4 := blk_lt (((hg2.trans hg3).trans hgI).blk hb0)
    clear t0 t1 t2 t3 t4 t5 tf y0 y1 y2 y3 y4 y5 yf
    · have hnx : ∀ ty, (Instr.next (.pointer (some ⟨w3.heap.size, 0, none⟩)) true ty).run Tryd.prog (w3.iter ⟨#[]⟩ pos) = _ := fun ty => run_next_end w3 ⟨#[]⟩ pos ty (by show ¬ pos < 0; omega)
      go_wp2_with fail
      go_loop [3, 35] (fun g i => ∃ j : Nat, j ≤ 0 ∧ i = .int .i64 j ∧ g = .bool true) (fun _ i => 0 - (intOf i).toNat)
      case atStart => exact ⟨0, Nat.zero_le _, rfl, rfl⟩
      case round =>
        obtain ⟨j, hj, rfl, rfl⟩ := hrel
        · have hjn : ¬ (j : Int) < 0 := by omega
          clear hnx hgr hcd hr
          go_wp2_with (first
            | (go_at_call 61; refine (bare_true _ _ _ _ _ _ _).mono ?_; rintro e w7 ⟨rfl, hg7⟩)
            | (go_at_call 60; refine (in_true m 60 63 _ (by omega) (by omega)).mono ?_; rintro e w8 ⟨rfl, rfl⟩))
          go_ret
          refine ⟨rfl, Gr.trans ?_ hg7⟩
          (repeat (first | with_reducible exact Gr.refl _ | with_reducible assumption | with_reducible refine Gr.setCell ?_ (by simp; try omega) _ | with_reducible refine Gr.alloc ?_ _ | with_reducible refine Gr.drew ?_ | with_reducible refine Gr.drewN ?_ _ | with_reducible refine Gr.trans ?_ (by assumption)))

set_option maxRecDepth 100000 in
set_option maxHeartbeats 2000000 in
theorem check_3 {w : World} {c m : Int} {l d : List Int} {a1 a2 : Option Addr} {np c1 nd c2 : Nat} (hl : IntsOk l) (hd : DatOk d) (hm : MarkOk m) (hnd : nd = d.length) (hr : HasRow w 5 (.slice a2 nd c2) nd (bcells d))
    (hgr : ∀ w', Gr w w' → Calls Tryd.prog 56 #[.agg #[.int .i64 3, .int .u8 c, .int .u8 m, .slice a1 np c1, .string (strOf l), .slice a2 nd c2]] w' fun e w2 => e = .returned (.bool false) ∧ Gr w' w2)
    (hcd : ∀ w', Gr w w' → Calls Tryd.prog 57 #[.agg #[.int .i64 3, .int .u8 c, .int .u8 m, .slice a1 np c1, .string (strOf l), .slice a2 nd c2]] w' fun e w2 => e = .returned (.bool true) ∧ Gr w' w2)
    (hm0 : m = 0) (hp0 : np = 0) (hd0 : d = []) (hnd0 : nd = 0) : Checks w 3 c m l (.slice a1 np c1) (.slice a2 nd c2) := by
  have hsz := strOf_size l
  have hlr : ∀ c ∈ l, 0 ≤ c ∧ c < 256 := fun c hc => by have := hl.2 c hc; omega
  have hl3 := hl.1
  have hd4 := hd.1
  have HL := Lib.hid hl.2; have HD := Lib.hid hd.2; have HS : Hid (∀ k (hk : k < (strOf l).size), ∃ x, l[k]? = some x ∧ (((strOf l)[k]'hk).toNat : Int) = x) := Lib.hid fun k hk => strOf_at hlr hk
  have HN := Lib.hid hnd
  
  obtain ⟨s, hsd⟩ : ∃ s, s = strOf l := ⟨_, rfl⟩
  unfold Checks
  rw [← hsd] at hsz hgr hcd HS  ⊢
  have hss : s.size ≤ 3 := by omega
  have hnd4 : nd ≤ 4096 := by omega
  have HSZ := Lib.hid hsz
  clear hl hd hlr hl3 hd4 hnd hsd hsz
  subst hm0
  subst hp0
  subst hnd0
  
  have hw0 := (Gr.refl w).alloc (.cells #[.int .i64 3, .int .u8 c, .int .u8 0, .slice a1 0 c1, .string s, .slice a2 0 c2] 34)
  have hb0 := heap_alloc_new w (.cells #[.int .i64 3, .int .u8 c, .int .u8 0, .slice a1 0 c1, .string s, .slice a2 0 c2] 34)
  have hTl := blk_lt hb0
  go_enter Tryd.func48, Tryd.ntmps48
  go_wp2_with (first
    | (go_at_call 56; refine (hgr _ hw0).mono ?_; rintro e w2 ⟨rfl, hg2⟩; have hw2 := hw0.trans hg2; obtain ⟨t0, t1, t2, t3, t4, t5, tf⟩ := cells6 (hg2.blk hb0))
    | (go_at_call 57; refine (hcd _ hw2).mono ?_; rintro e w3 ⟨rfl, hg3⟩; have hw3 := hw2.trans hg3; obtain ⟨y0, y1, y2, y3, y4, y5, yf⟩ := cells6 ((hg2.trans hg3).blk hb0)))
  go_loopw [3] (fun g wr => ∃ pos : Nat, pos ≤ s.size ∧ wr = w3.iter s pos ∧ g = .bool true) (fun _ wr => s.size - wr.iterPos w3.heap.size)
  case atStart => exact ⟨0, Nat.zero_le _, rfl, rfl⟩
  case round =>
    obtain ⟨pos, hpos, rfl, rfl⟩ := hrel
    have hgI : Gr w3 (w3.iter s pos) := (Gr.refl w3).alloc _
    obtain ⟨v0, v1, v2, v3, v4, v5, vf⟩ := cells6 (((hg2.trans hg3).trans hgI).blk hb0)
    have hw4 := hw3.trans hgI
    have hlt4 := blk_lt (((hg2.trans hg3).trans hgI).blk hb0)
    clear t0 t1 t2 t3 t4 t5 tf y0 y1 y2 y3 y4 y5 yf
    by_cases hp : pos < s.size
    · obtain ⟨x, hx, hxs⟩ := HS.out pos hp
      obtain ⟨x1, x2⟩ := HL.out x (List.mem_of_getElem? hx)
      have hnx : ∀ ty, (Instr.next (.pointer (some ⟨w3.heap.size, 0, none⟩)) true ty).run Tryd.prog (w3.iter s pos) = .ok (.tuple #[.bool true, .int .i64 pos, .int .i32 x]) (w3.iter s (pos + 1)) := fun ty => by
        rw [← hxs]; exact run_next_ascii w3 s pos ty hp (by omega)
      clear hx hxs
      go_wp2_with (go_at_call 58; refine (inter_true x _ x1 x2).mono ?_; rintro e w5 ⟨rfl, rfl⟩)
      go_roundw
      case rel => exact ⟨pos + 1, by omega, rfl, rfl⟩
      case measure => simp; omega
    · have hnx : ∀ ty, (Instr.next (.pointer (some ⟨w3.heap.size, 0, none⟩)) true ty).run Tryd.prog (w3.iter s pos) = _ := fun ty => run_next_end w3 s pos ty hp
      go_wp2_with fail
      go_loop [3, 35] (fun g i => ∃ j : Nat, j ≤ 0 ∧ i = .int .i64 j ∧ g = .bool true) (fun _ i => 0 - (intOf i).toNat)
      case atStart => exact ⟨0, Nat.zero_le _, rfl, rfl⟩
      case round =>
        obtain ⟨j, hj, rfl, rfl⟩ := hrel
        · have hjn : ¬ (j : Int) < 0 := by omega
          clear hnx hgr hcd hr
          go_wp2_with (first
            | (go_at_call 61; refine (bare_true _ _ _ _ _ _ _).mono ?_; rintro e w7 ⟨rfl, hg7⟩)
            | (go_at_call 60; refine (in_true m 60 63 _ (by omega) (by omega)).mono ?_; rintro e w8 ⟨rfl, rfl⟩))
          go_ret
          refine ⟨rfl, Gr.trans ?_ hg7⟩
          (repeat (first | with_reducible exact Gr.refl _ | with_reducible assumption | with_reducible refine Gr.setCell ?_ (by simp; try omega) _ | with_reducible refine Gr.alloc ?_ _ | with_reducible refine Gr.drew ?_ | with_reducible refine Gr.drewN ?_ _ | with_reducible refine Gr.trans ?_ (by assumption)))

set_option maxRecDepth 100000 in
set_option maxHeartbeats 2000000 in
theorem check_4 {w : World} {c m : Int} {l d : List Int} {a1 a2 : Option Addr} {np c1 nd c2 : Nat} (hl : IntsOk l) (hd : DatOk d) (hm : MarkOk m) (hnd : nd = d.length) (hr : HasRow w 5 (.slice a2 nd c2) nd (bcells d))
    (hgr : ∀ w', Gr w w' → Calls Tryd.prog 56 #[.agg #[.int .i64 4, .int .u8 c, .int .u8 m, .slice a1 np c1, .string (strOf l), .slice a2 nd c2]] w' fun e w2 => e = .returned (.bool false) ∧ Gr w' w2)
    (hcd : ∀ w', Gr w w' → Calls Tryd.prog 57 #[.agg #[.int .i64 4, .int .u8 c, .int .u8 m, .slice a1 np c1, .string (strOf l), .slice a2 nd c2]] w' fun e w2 => e = .returned (.bool true) ∧ Gr w' w2)
    (hd0 : d = []) (hnd0 : nd = 0) : Checks w 4 c m l (.slice a1 np c1) (.slice a2 nd c2) := by
  have hsz := strOf_size l
  have hlr : ∀ c ∈ l, 0 ≤ c ∧ c < 256 := fun c hc => by have := hl.2 c hc; omega
  have hl3 := hl.1
  have hd4 := hd.1
  have HL := Lib.hid hl.2; have HD := Lib.hid hd.2; have HS : Hid (∀ k (hk : k < (strOf l).size), ∃ x, l[k]? = some x ∧ (((strOf l)[k]'hk).toNat : Int) = x) := Lib.hid fun k hk => strOf_at hlr hk
  have HN := Lib.hid hnd
  
  obtain ⟨s, hsd⟩ : ∃ s, s = strOf l := ⟨_, rfl⟩
  unfold Checks
  rw [← hsd] at hsz hgr hcd HS  ⊢
  have hss : s.size ≤ 3 := by omega
  have hnd4 : nd ≤ 4096 := by omega
  have HSZ := Lib.hid hsz
  clear hl hd hlr hl3 hd4 hnd hsd hsz
  
  
  subst hnd0
  
  have hw0 := (Gr.refl w).alloc (.cells #[.int .i64 4, .int .u8 c, .int .u8 m, .slice a1 np c1, .string s, .slice a2 0 c2] 34)
  have hb0 := heap_alloc_new w (.cells #[.int .i64 4, .int .u8 c, .int .u8 m, .slice a1 np c1, .string s, .slice a2 0 c2] 34)
  have hTl := blk_lt hb0
  go_enter Tryd.func48, Tryd.ntmps48
  go_wp2_with (first
    | (go_at_call 56; refine (hgr _ hw0).mono ?_; rintro e w2 ⟨rfl, hg2⟩; have hw2 := hw0.trans hg2; obtain ⟨t0, t1, t2, t3, t4, t5, tf⟩ := cells6 (hg2.blk hb0))
    | (go_at_call 57; refine (hcd _ hw2).mono ?_; rintro e w3 ⟨rfl, hg3⟩; have hw3 := hw2.trans hg3; obtain ⟨y0, y1, y2, y3, y4, y5, yf⟩ := cells6 ((hg2.trans hg3).blk hb0)))
  go_loopw [3] (fun g wr => ∃ pos : Nat, pos ≤ s.size ∧ wr = w3.iter s pos ∧ g = .bool true) (fun _ wr => s.size - wr.iterPos w3.heap.size)
  case atStart => exact ⟨0, Nat.zero_le _, rfl, rfl⟩
  case round =>
    obtain ⟨pos, hpos, rfl, rfl⟩ := hrel
    have hgI : Gr w3 (w3.iter s pos) := (Gr.refl w3).alloc _
    obtain ⟨v0, v1, v2, v3, v4, v5, vf⟩ := cells6 (((hg2.trans hg3).trans hgI).blk hb0)
    have hw4 := hw3.trans hgI
    have hlt4 := blk_lt (((hg2.trans hg3).trans hgI).blk hb0)
    clear t0 t1 t2 t3 t4 t5 tf y0 y1 y2 y3 y4 y5 yf
    by_cases hp : pos < s.size
    · obtain ⟨x, hx, hxs⟩ := HS.out pos hp
      obtain ⟨x1, x2⟩ := HL.out x (List.mem_of_getElem? hx)
      have hnx : ∀ ty, (Instr.next (.pointer (some ⟨w3.heap.size, 0, none⟩)) true ty).run Tryd.prog (w3.iter s pos) = .ok (.tuple #[.bool true, .int .i64 pos, .int .i32 x]) (w3.iter s (pos + 1)) := fun ty => by
        rw [← hxs]; exact run_next_ascii w3 s pos ty hp (by omega)
      clear hx hxs
      go_wp2_with (go_at_call 58; refine (inter_true x _ x1 x2).mono ?_; rintro e w5 ⟨rfl, rfl⟩)
      go_roundw
      case rel => exact ⟨pos + 1, by omega, rfl, rfl⟩
      case measure => simp; omega
    · have hnx : ∀ ty, (Instr.next (.pointer (some ⟨w3.heap.size, 0, none⟩)) true ty).run Tryd.prog (w3.iter s pos) = _ := fun ty => run_next_end w3 s pos ty hp
      go_wp2_with fail
      go_loop [3, 35] (fun g i => ∃ j : Nat, j ≤ 0 ∧ i = .int .i64 j ∧ g = .bool true) (fun _ i => 0 - (intOf i).toNat)
      case atStart => exact ⟨0, Nat.zero_le _, rfl, rfl⟩
      case round =>
        obtain ⟨j, hj, rfl, rfl⟩ := hrel
        · have hjn : ¬ (j : Int) < 0 := by omega
          clear hnx hgr hcd hr
          rcases hm with rfl | ⟨hm1, hm2⟩
          · go_wp2_with (go_at_call 61; refine (bare_true _ _ _ _ _ _ _).mono ?_; rintro e w7 ⟨rfl, hg7⟩)
            go_ret
            refine ⟨rfl, Gr.trans ?_ hg7⟩
            (repeat (first | with_reducible exact Gr.refl _ | with_reducible assumption | with_reducible refine Gr.setCell ?_ (by simp; try omega) _ | with_reducible refine Gr.alloc ?_ _ | with_reducible refine Gr.drew ?_ | with_reducible refine Gr.drewN ?_ _ | with_reducible refine Gr.trans ?_ (by assumption)))
          · have hmz : (m != 0) = true := by simp; omega
            go_wp2_with (first
              | (go_at_call 61; refine (bare_true _ _ _ _ _ _ _).mono ?_; rintro e w7 ⟨rfl, hg7⟩)
              | (go_at_call 60; refine (in_true m 60 63 _ hm1 hm2).mono ?_; rintro e w8 ⟨rfl, rfl⟩))
            go_ret
            refine ⟨rfl, Gr.trans ?_ hg7⟩
            (repeat (first | with_reducible exact Gr.refl _ | with_reducible assumption | with_reducible refine Gr.setCell ?_ (by simp; try omega) _ | with_reducible refine Gr.alloc ?_ _ | with_reducible refine Gr.drew ?_ | with_reducible refine Gr.drewN ?_ _ | with_reducible refine Gr.trans ?_ (by assumption)))

set_option maxRecDepth 100000 in
set_option maxHeartbeats 2000000 in
theorem check_5 {w : World} {c m : Int} {l d : List Int} {a1 a2 : Option Addr} {np c1 nd c2 : Nat} (hl : IntsOk l) (hd : DatOk d) (hm : MarkOk m) (hnd : nd = d.length) (hr : HasRow w 5 (.slice a2 nd c2) nd (bcells d))
    (hgr : ∀ w', Gr w w' → Calls Tryd.prog 56 #[.agg #[.int .i64 5, .int .u8 c, .int .u8 m, .slice a1 np c1, .string (strOf l), .slice a2 nd c2]] w' fun e w2 => e = .returned (.bool false) ∧ Gr w' w2)
    (hcd : ∀ w', Gr w w' → Calls Tryd.prog 57 #[.agg #[.int .i64 5, .int .u8 c, .int .u8 m, .slice a1 np c1, .string (strOf l), .slice a2 nd c2]] w' fun e w2 => e = .returned (.bool true) ∧ Gr w' w2)
     : Checks w 5 c m l (.slice a1 np c1) (.slice a2 nd c2) := by
  have hsz := strOf_size l
  have hlr : ∀ c ∈ l, 0 ≤ c ∧ c < 256 := fun c hc => by have := hl.2 c hc; omega
  have hl3 := hl.1
  have hd4 := hd.1
  have HL := Lib.hid hl.2; have HD := Lib.hid hd.2; have HS : Hid (∀ k (hk : k < (strOf l).size), ∃ x, l[k]? = some x ∧ (((strOf l)[k]'hk).toNat : Int) = x) := Lib.hid fun k hk => strOf_at hlr hk
  have HN := Lib.hid hnd
  
  obtain ⟨s, hsd⟩ : ∃ s, s = strOf l := ⟨_, rfl⟩
  unfold Checks
  rw [← hsd] at hsz hgr hcd HS  ⊢
  have hss : s.size ≤ 3 := by omega
  have hnd4 : nd ≤ 4096 := by omega
  have HSZ := Lib.hid hsz
  clear hl hd hlr hl3 hd4 hnd hsd hsz
  
  
  
  
  have hw0 := (Gr.refl w).alloc (.cells #[.int .i64 5, .int .u8 c, .int .u8 m, .slice a1 np c1, .string s, .slice a2 nd c2] 34)
  have hb0 := heap_alloc_new w (.cells #[.int .i64 5, .int .u8 c, .int .u8 m, .slice a1 np c1, .string s, .slice a2 nd c2] 34)
  have hTl := blk_lt hb0
  go_enter Tryd.func48, Tryd.ntmps48
  go_wp2_with (first
    | (go_at_call 56; refine (hgr _ hw0).mono ?_; rintro e w2 ⟨rfl, hg2⟩; have hw2 := hw0.trans hg2; obtain ⟨t0, t1, t2, t3, t4, t5, tf⟩ := cells6 (hg2.blk hb0))
    | (go_at_call 57; refine (hcd _ hw2).mono ?_; rintro e w3 ⟨rfl, hg3⟩; have hw3 := hw2.trans hg3; obtain ⟨y0, y1, y2, y3, y4, y5, yf⟩ := cells6 ((hg2.trans hg3).blk hb0)))
  go_loopw [3] (fun g wr => ∃ pos : Nat, pos ≤ s.size ∧ wr = w3.iter s pos ∧ g = .bool true) (fun _ wr => s.size - wr.iterPos w3.heap.size)
  case atStart => exact ⟨0, Nat.zero_le _, rfl, rfl⟩
  case round =>
    obtain ⟨pos, hpos, rfl, rfl⟩ := hrel
    have hgI : Gr w3 (w3.iter s pos) := (Gr.refl w3).alloc _
    obtain ⟨v0, v1, v2, v3, v4, v5, vf⟩ := cells6 (((hg2.trans hg3).trans hgI).blk hb0)
    have hw4 := hw3.trans hgI
    have hlt4 := blk_lt (((hg2.trans hg3).trans hgI).blk hb0)
    clear t0 t1 t2 t3 t4 t5 tf y0 y1 y2 y3 y4 y5 yf
    by_cases hp : pos < s.size
    · obtain ⟨x, hx, hxs⟩ := HS.out pos hp
      obtain ⟨x1, x2⟩ := HL.out x (List.mem_of_getElem? hx)
      have hnx : ∀ ty, (Instr.next (.pointer (some ⟨w3.heap.size, 0, none⟩)) true ty).run Tryd.prog (w3.iter s pos) = .ok (.tuple #[.bool true, .int .i64 pos, .int .i32 x]) (w3.iter s (pos + 1)) := fun ty => by
        rw [← hxs]; exact run_next_ascii w3 s pos ty hp (by omega)
      clear hx hxs
      go_wp2_with (go_at_call 58; refine (inter_true x _ x1 x2).mono ?_; rintro e w5 ⟨rfl, rfl⟩)
      go_roundw
      case rel => exact ⟨pos + 1, by omega, rfl, rfl⟩
      case measure => simp; omega
    · have hnx : ∀ ty, (Instr.next (.pointer (some ⟨w3.heap.size, 0, none⟩)) true ty).run Tryd.prog (w3.iter s pos) = _ := fun ty => run_next_end w3 s pos ty hp
      go_wp2_with fail
      go_loop [3, 35] (fun g i => ∃ j : Nat, j ≤ nd ∧ i = .int .i64 j ∧ g = .bool true) (fun _ i => nd - (intOf i).toNat)
      case atStart => exact ⟨0, Nat.zero_le _, rfl, rfl⟩
      case round =>
        obtain ⟨j, hj, rfl, rfl⟩ := hrel
        by_cases hlt : j < nd
        · obtain ⟨g1, p1, u1, hv1, hu1, hc1⟩ := (hr.gr hw4).at_ hlt
          injection hv1 with e1 e2 e3
          subst e1
          have hu := bcells_at' hu1
          subst hu
          have hx := HD.out (d.getD j 0) (by rw [List.getD, List.getElem?_eq_getElem (by have := HN.out; omega)]; exact List.getElem_mem (by have := HN.out; omega))
          obtain ⟨x, hxd⟩ : ∃ x, x = d.getD j 0 := ⟨_, rfl⟩
          rw [← hxd] at hc1 hx
          have HX := Lib.hid hx
          have hjn : (j : Int) < (nd : Int) := by omega
          have j0 : (0 : Int) ≤ (j : Int) := by omega
          clear hxd hr hu1 e2 e3 hx hnx hgr hcd
          go_wp2_with (go_at_call 59; refine (data_true x _ HX.out).mono ?_; rintro e w6 ⟨rfl, rfl⟩)
          go_round
          case rel => exact ⟨j + 1, by omega, by go_num, rfl⟩
          case measure => simp [intOf]; omega
        · have hjn : ¬ (j : Int) < (nd : Int) := by omega
          clear hnx hgr hcd hr
          rcases hm with rfl | ⟨hm1, hm2⟩
          · go_wp2_with (go_at_call 61; refine (bare_true _ _ _ _ _ _ _).mono ?_; rintro e w7 ⟨rfl, hg7⟩)
            go_ret
            refine ⟨rfl, Gr.trans ?_ hg7⟩
            (repeat (first | with_reducible exact Gr.refl _ | with_reducible assumption | with_reducible refine Gr.setCell ?_ (by simp; try omega) _ | with_reducible refine Gr.alloc ?_ _ | with_reducible refine Gr.drew ?_ | with_reducible refine Gr.drewN ?_ _ | with_reducible refine Gr.trans ?_ (by assumption)))
          · have hmz : (m != 0) = true := by simp; omega
            go_wp2_with (first
              | (go_at_call 61; refine (bare_true _ _ _ _ _ _ _).mono ?_; rintro e w7 ⟨rfl, hg7⟩)
              | (go_at_call 60; refine (in_true m 60 63 _ hm1 hm2).mono ?_; rintro e w8 ⟨rfl, rfl⟩))
            go_ret
            refine ⟨rfl, Gr.trans ?_ hg7⟩
            (repeat (first | with_reducible exact Gr.refl _ | with_reducible assumption | with_reducible refine Gr.setCell ?_ (by simp; try omega) _ | with_reducible refine Gr.alloc ?_ _ | with_reducible refine Gr.drew ?_ | with_reducible refine Gr.drewN ?_ _ | with_reducible refine Gr.trans ?_ (by assumption)))

set_option maxRecDepth 100000 in
set_option maxHeartbeats 2000000 in
theorem check_6 {w : World} {c m : Int} {l d : List Int} {a1 a2 : Option Addr} {np c1 nd c2 : Nat} (hl : IntsOk l) (hd : DatOk d) (hm : MarkOk m) (hnd : nd = d.length) (hr : HasRow w 5 (.slice a2 nd c2) nd (bcells d))
    (hgr : ∀ w', Gr w w' → Calls Tryd.prog 56 #[.agg #[.int .i64 6, .int .u8 c, .int .u8 m, .slice a1 np c1, .string (strOf l), .slice a2 nd c2]] w' fun e w2 => e = .returned (.bool false) ∧ Gr w' w2)
    (hcd : ∀ w', Gr w w' → Calls Tryd.prog 57 #[.agg #[.int .i64 6, .int .u8 c, .int .u8 m, .slice a1 np c1, .string (strOf l), .slice a2 nd c2]] w' fun e w2 => e = .returned (.bool true) ∧ Gr w' w2)
    (hm0 : m = 0) (hp0 : np = 0) (hl0 : l = []) : Checks w 6 c m l (.slice a1 np c1) (.slice a2 nd c2) := by
  have hsz := strOf_size l
  have hlr : ∀ c ∈ l, 0 ≤ c ∧ c < 256 := fun c hc => by have := hl.2 c hc; omega
  have hl3 := hl.1
  have hd4 := hd.1
  have HL := Lib.hid hl.2; have HD := Lib.hid hd.2; have HS : Hid (∀ k (hk : k < (strOf l).size), ∃ x, l[k]? = some x ∧ (((strOf l)[k]'hk).toNat : Int) = x) := Lib.hid fun k hk => strOf_at hlr hk
  have HN := Lib.hid hnd
  have hs0 : strOf l = ⟨#[]⟩ := by rw [hl0]; rfl
  obtain ⟨s, hsd⟩ : ∃ s, s = strOf l := ⟨_, rfl⟩
  unfold Checks
  rw [← hsd] at hsz hgr hcd HS hs0 ⊢
  have hss : s.size ≤ 3 := by omega
  have hnd4 : nd ≤ 4096 := by omega
  have HSZ := Lib.hid hsz
  clear hl hd hlr hl3 hd4 hnd hsd hsz
  subst hm0
  subst hp0
  
  subst hs0
  have hw0 := (Gr.refl w).alloc (.cells #[.int .i64 6, .int .u8 c, .int .u8 0, .slice a1 0 c1, .string ⟨#[]⟩, .slice a2 nd c2] 34)
  have hb0 := heap_alloc_new w (.cells #[.int .i64 6, .int .u8 c, .int .u8 0, .slice a1 0 c1, .string ⟨#[]⟩, .slice a2 nd c2] 34)
  have hTl := blk_lt hb0
  go_enter Tryd.func48, Tryd.ntmps48
  go_wp2_with (first
    | (go_at_call 56; refine (hgr _ hw0).mono ?_; rintro e w2 ⟨rfl, hg2⟩; have hw2 := hw0.trans hg2; obtain ⟨t0, t1, t2, t3, t4, t5, tf⟩ := cells6 (hg2.blk hb0))
    | (go_at_call 57; refine (hcd _ hw2).mono ?_; rintro e w3 ⟨rfl, hg3⟩; have hw3 := hw2.trans hg3; obtain ⟨y0, y1, y2, y3, y4, y5, yf⟩ := cells6 ((hg2.trans hg3).blk hb0)))
  go_loopw [3] (fun g wr => ∃ pos : Nat, pos ≤ 0 ∧ wr = w3.iter ⟨#[]⟩ pos ∧ g = .bool true) (fun _ wr => 0 - wr.iterPos w3.heap.size)
  case atStart => exact ⟨0, Nat.zero_le _, rfl, rfl⟩
  case round =>
    obtain ⟨pos, hpos, rfl, rfl⟩ := hrel
    have hgI : Gr w3 (w3.iter ⟨#[]⟩ pos) := (Gr.refl w3).alloc _
    obtain ⟨v0, v1, v2, v3, v4, v5, vf⟩ := cells6 (((hg2.trans hg3).trans hgI).blk hb0)
    have hw4 := hw3.trans hgI
    have hlt4 := blk_lt (((hg2.trans hg3).trans hgI).blk hb0)
    clear t0 t1 t2 t3 t4 t5 tf y0 y1 y2 y3 y4 y5 yf
    · have hnx : ∀ ty, (Instr.next (.pointer (some ⟨w3.heap.size, 0, none⟩)) true ty).run Tryd.prog (w3.iter ⟨#[]⟩ pos) = _ := fun ty => run_next_end w3 ⟨#[]⟩ pos ty (by show ¬ pos < 0; omega)
      go_wp2_with fail
      go_loop [3, 35] (fun g i => ∃ j : Nat, j ≤ nd ∧ i = .int .i64 j ∧ g = .bool true) (fun _ i => nd - (intOf i).toNat)
      case atStart => exact ⟨0, Nat.zero_le _, rfl, rfl⟩
      case round =>
        obtain ⟨j, hj, rfl, rfl⟩ := hrel
        by_cases hlt : j < nd
        · obtain ⟨g1, p1, u1, hv1, hu1, hc1⟩ := (hr.gr hw4).at_ hlt
          injection hv1 with e1 e2 e3
          subst e1
          have hu := bcells_at' hu1
          subst hu
          have hx := HD.out (d.getD j 0) (by rw [List.getD, List.getElem?_eq_getElem (by have := HN.out; omega)]; exact List.getElem_mem (by have := HN.out; omega))
          obtain ⟨x, hxd⟩ : ∃ x, x = d.getD j 0 := ⟨_, rfl⟩
          rw [← hxd] at hc1 hx
          have HX := Lib.hid hx
          have hjn : (j : Int) < (nd : Int) := by omega
          have j0 : (0 : Int) ≤ (j : Int) := by omega
          clear hxd hr hu1 e2 e3 hx hnx hgr hcd
          go_wp2_with (go_at_call 59; refine (data_true x _ HX.out).mono ?_; rintro e w6 ⟨rfl, rfl⟩)
          go_round
          case rel => exact ⟨j + 1, by omega, by go_num, rfl⟩
          case measure => simp [intOf]; omega
        · have hjn : ¬ (j : Int) < (nd : Int) := by omega
          clear hnx hgr hcd hr
          go_wp2_with (first
            | (go_at_call 61; refine (bare_true _ _ _ _ _ _ _).mono ?_; rintro e w7 ⟨rfl, hg7⟩)
            | (go_at_call 60; refine (in_true m 60 63 _ (by omega) (by omega)).mono ?_; rintro e w8 ⟨rfl, rfl⟩))
          go_ret
          refine ⟨rfl, Gr.trans ?_ hg7⟩
          (repeat (first | with_reducible exact Gr.refl _ | with_reducible assumption | with_reducible refine Gr.setCell ?_ (by simp; try omega) _ | with_reducible refine Gr.alloc ?_ _ | with_reducible refine Gr.drew ?_ | with_reducible refine Gr.drewN ?_ _ | with_reducible refine Gr.trans ?_ (by assumption)))

set_option maxRecDepth 100000 in
set_option maxHeartbeats 2000000 in
theorem check_7 {w : World} {c m : Int} {l d : List Int} {a1 a2 : Option Addr} {np c1 nd c2 : Nat} (hl : IntsOk l) (hd : DatOk d) (hm : MarkOk m) (hnd : nd = d.length) (hr : HasRow w 5 (.slice a2 nd c2) nd (bcells d))
    (hgr : ∀ w', Gr w w' → Calls Tryd.prog 56 #[.agg #[.int .i64 7, .int .u8 c, .int .u8 m, .slice a1 np c1, .string (strOf l), .slice a2 nd c2]] w' fun e w2 => e = .returned (.bool false) ∧ Gr w' w2)
    (hcd : ∀ w', Gr w w' → Calls Tryd.prog 57 #[.agg #[.int .i64 7, .int .u8 c, .int .u8 m, .slice a1 np c1, .string (strOf l), .slice a2 nd c2]] w' fun e w2 => e = .returned (.bool true) ∧ Gr w' w2)
    (hm0 : m = 0) (hp0 : np = 0) (hl0 : l = []) : Checks w 7 c m l (.slice a1 np c1) (.slice a2 nd c2) := by
  have hsz := strOf_size l
  have hlr : ∀ c ∈ l, 0 ≤ c ∧ c < 256 := fun c hc => by have := hl.2 c hc; omega
  have hl3 := hl.1
  have hd4 := hd.1
  have HL := Lib.hid hl.2; have HD := Lib.hid hd.2; have HS : Hid (∀ k (hk : k < (strOf l).size), ∃ x, l[k]? = some x ∧ (((strOf l)[k]'hk).toNat : Int) = x) := Lib.hid fun k hk => strOf_at hlr hk
  have HN := Lib.hid hnd
  have hs0 : strOf l = ⟨#[]⟩ := by rw [hl0]; rfl
  obtain ⟨s, hsd⟩ : ∃ s, s = strOf l := ⟨_, rfl⟩
  unfold Checks
  rw [← hsd] at hsz hgr hcd HS hs0 ⊢
  have hss : s.size ≤ 3 := by omega
  have hnd4 : nd ≤ 4096 := by omega
  have HSZ := Lib.hid hsz
  clear hl hd hlr hl3 hd4 hnd hsd hsz
  subst hm0
  subst hp0
  
  subst hs0
  have hw0 := (Gr.refl w).alloc (.cells #[.int .i64 7, .int .u8 c, .int .u8 0, .slice a1 0 c1, .string ⟨#[]⟩, .slice a2 nd c2] 34)
  have hb0 := heap_alloc_new w (.cells #[.int .i64 7, .int .u8 c, .int .u8 0, .slice a1 0 c1, .string ⟨#[]⟩, .slice a2 nd c2] 34)
  have hTl := blk_lt hb0
  go_enter Tryd.func48, Tryd.ntmps48
  go_wp2_with (first
    | (go_at_call 56; refine (hgr _ hw0).mono ?_; rintro e w2 ⟨rfl, hg2⟩; have hw2 := hw0.trans hg2; obtain ⟨t0, t1, t2, t3, t4, t5, tf⟩ := cells6 (hg2.blk hb0))
    | (go_at_call 57; refine (hcd _ hw2).mono ?_; rintro e w3 ⟨rfl, hg3⟩; have hw3 := hw2.trans hg3; obtain ⟨y0, y1, y2, y3, y4, y5, yf⟩ := cells6 ((hg2.trans hg3).blk hb0)))
  go_loopw [3] (fun g wr => ∃ pos : Nat, pos ≤ 0 ∧ wr = w3.iter ⟨#[]⟩ pos ∧ g = .bool true) (fun _ wr => 0 - wr.iterPos w3.heap.size)
  case atStart => exact ⟨0, Nat.zero_le _, rfl, rfl⟩
  case round =>
    obtain ⟨pos, hpos, rfl, rfl⟩ := hrel
    have hgI : Gr w3 (w3.iter ⟨#[]⟩ pos) := (Gr.refl w3).alloc _
    obtain ⟨v0, v1, v2, v3, v4, v5, vf⟩ := cells6 (((hg2.trans hg3).trans hgI).blk hb0)
    have hw4 := hw3.trans hgI
    have hlt4 := blk_lt (((hg2.trans hg3).trans hgI).blk hb0)
    clear t0 t1 t2 t3 t4 t5 tf y0 y1 y2 y3 y4 y5 yf
    · have hnx : ∀ ty, (Instr.next (.pointer (some ⟨w3.heap.size, 0, none⟩)) true ty).run Tryd.prog (w3.iter ⟨#[]⟩ pos) = _ := fun ty => run_next_end w3 ⟨#[]⟩ pos ty (by show ¬ pos < 0; omega)
      go_wp2_with fail
      go_loop [3, 35] (fun g i => ∃ j : Nat, j ≤ nd ∧ i = .int .i64 j ∧ g = .bool true) (fun _ i => nd - (intOf i).toNat)
      case atStart => exact ⟨0, Nat.zero_le _, rfl, rfl⟩
      case round =>
        obtain ⟨j, hj, rfl, rfl⟩ := hrel
        by_cases hlt : j < nd
        · obtain ⟨g1, p1, u1, hv1, hu1, hc1⟩ := (hr.gr hw4).at_ hlt
          injection hv1 with e1 e2 e3
          subst e1
          have hu := bcells_at' hu1
          subst hu
          have hx := HD.out (d.getD j 0) (by rw [List.getD, List.getElem?_eq_getElem (by have := HN.out; omega)]; exact List.getElem_mem (by have := HN.out; omega))
          obtain ⟨x, hxd⟩ : ∃ x, x = d.getD j 0 := ⟨_, rfl⟩
          rw [← hxd] at hc1 hx
          have HX := Lib.hid hx
          have hjn : (j : Int) < (nd : Int) := by omega
          have j0 : (0 : Int) ≤ (j : Int) := by omega
          clear hxd hr hu1 e2 e3 hx hnx hgr hcd
          go_wp2_with (go_at_call 59; refine (data_true x _ HX.out).mono ?_; rintro e w6 ⟨rfl, rfl⟩)
          go_round
          case rel => exact ⟨j + 1, by omega, by go_num, rfl⟩
          case measure => simp [intOf]; omega
        · have hjn : ¬ (j : Int) < (nd : Int) := by omega
          clear hnx hgr hcd hr
          go_wp2_with (first
            | (go_at_call 61; refine (bare_true _ _ _ _ _ _ _).mono ?_; rintro e w7 ⟨rfl, hg7⟩)
            | (go_at_call 60; refine (in_true m 60 63 _ (by omega) (by omega)).mono ?_; rintro e w8 ⟨rfl, rfl⟩))
          go_ret
          refine ⟨rfl, Gr.trans ?_ hg7⟩
          (repeat (first | with_reducible exact Gr.refl _ | with_reducible assumption | with_reducible refine Gr.setCell ?_ (by simp; try omega) _ | with_reducible refine Gr.alloc ?_ _ | with_reducible refine Gr.drew ?_ | with_reducible refine Gr.drewN ?_ _ | with_reducible refine Gr.trans ?_ (by assumption)))

set_option maxRecDepth 100000 in
set_option maxHeartbeats 2000000 in
theorem check_8 {w : World} {c m : Int} {l d : List Int} {a1 a2 : Option Addr} {np c1 nd c2 : Nat} (hl : IntsOk l) (hd : DatOk d) (hm : MarkOk m) (hnd : nd = d.length) (hr : HasRow w 5 (.slice a2 nd c2) nd (bcells d))
    (hgr : ∀ w', Gr w w' → Calls Tryd.prog 56 #[.agg #[.int .i64 8, .int .u8 c, .int .u8 m, .slice a1 np c1, .string (strOf l), .slice a2 nd c2]] w' fun e w2 => e = .returned (.bool false) ∧ Gr w' w2)
    (hcd : ∀ w', Gr w w' → Calls Tryd.prog 57 #[.agg #[.int .i64 8, .int .u8 c, .int .u8 m, .slice a1 np c1, .string (strOf l), .slice a2 nd c2]] w' fun e w2 => e = .returned (.bool true) ∧ Gr w' w2)
    (hm0 : m = 0) (hp0 : np = 0) (hl0 : l = []) : Checks w 8 c m l (.slice a1 np c1) (.slice a2 nd c2) := by
  have hsz := strOf_size l
  have hlr : ∀ c ∈ l, 0 ≤ c ∧ c < 256 := fun c hc => by have := hl.2 c hc; omega
  have hl3 := hl.1
  have hd4 := hd.1
  have HL := Lib.hid hl.2; have HD := Lib.hid hd.2; have HS : Hid (∀ k (hk : k < (strOf l).size), ∃ x, l[k]? = some x ∧ (((strOf l)[k]'hk).toNat : Int) = x) := Lib.hid fun k hk => strOf_at hlr hk
  have HN := Lib.hid hnd
  have hs0 : strOf l = ⟨#[]⟩ := by rw [hl0]; rfl
  obtain ⟨s, hsd⟩ : ∃ s, s = strOf l := ⟨_, rfl⟩
  unfold Checks
  rw [← hsd] at hsz hgr hcd HS hs0 ⊢
  have hss : s.size ≤ 3 := by omega
  have hnd4 : nd ≤ 4096 := by omega
  have HSZ := Lib.hid hsz
  clear hl hd hlr hl3 hd4 hnd hsd hsz
  subst hm0
  subst hp0
  
  subst hs0
  have hw0 := (Gr.refl w).alloc (.cells #[.int .i64 8, .int .u8 c, .int .u8 0, .slice a1 0 c1, .string ⟨#[]⟩, .slice a2 nd c2] 34)
  have hb0 := heap_alloc_new w (.cells #[.int .i64 8, .int .u8 c, .int .u8 0, .slice a1 0 c1, .string ⟨#[]⟩, .slice a2 nd c2] 34)
  have hTl := blk_lt hb0
  go_enter Tryd.func48, Tryd.ntmps48
  go_wp2_with (first
    | (go_at_call 56; refine (hgr _ hw0).mono ?_; rintro e w2 ⟨rfl, hg2⟩; have hw2 := hw0.trans hg2; obtain ⟨t0, t1, t2, t3, t4, t5, tf⟩ := cells6 (hg2.blk hb0))
    | (go_at_call 57; refine (hcd _ hw2).mono ?_; rintro e w3 ⟨rfl, hg3⟩; have hw3 := hw2.trans hg3; obtain ⟨y0, y1, y2, y3, y4, y5, yf⟩ := cells6 ((hg2.trans hg3).blk hb0)))
  go_loopw [3] (fun g wr => ∃ pos : Nat, pos ≤ 0 ∧ wr = w3.iter ⟨#[]⟩ pos ∧ g = .bool true) (fun _ wr => 0 - wr.iterPos w3.heap.size)
  case atStart => exact ⟨0, Nat.zero_le _, rfl, rfl⟩
  case round =>
    obtain ⟨pos, hpos, rfl, rfl⟩ := hrel
    have hgI : Gr w3 (w3.iter ⟨#[]⟩ pos) := (Gr.refl w3).alloc _
    obtain ⟨v0, v1, v2, v3, v4, v5, vf⟩ := cells6 (((hg2.trans hg3).trans hgI).blk hb0)
    have hw4 := hw3.trans hgI
    have hlt4 := blk_lt (((hg2.trans hg3).trans hgI).blk hb0)
    clear t0 t1 t2 t3 t4 t5 tf y0 y1 y2 y3 y4 y5 yf
    · have hnx : ∀ ty, (Instr.next (.pointer (some ⟨w3.heap.size, 0, none⟩)) true ty).run Tryd.prog (w3.iter ⟨#[]⟩ pos) = _ := fun ty => run_next_end w3 ⟨#[]⟩ pos ty (by show ¬ pos < 0; omega)
      go_wp2_with fail
      go_loop [3, 35] (fun g i => ∃ j : Nat, j ≤ nd ∧ i = .int .i64 j ∧ g = .bool true) (fun _ i => nd - (intOf i).toNat)
      case atStart => exact ⟨0, Nat.zero_le _, rfl, rfl⟩
      case round =>
        obtain ⟨j, hj, rfl, rfl⟩ := hrel
        by_cases hlt : j < nd
        · obtain ⟨g1, p1, u1, hv1, hu1, hc1⟩ := (hr.gr hw4).at_ hlt
          injection hv1 with e1 e2 e3
          subst e1
          have hu := bcells_at' hu1
          subst hu
          have hx := HD.out (d.getD j 0) (by rw [List.getD, List.getElem?_eq_getElem (by have := HN.out; omega)]; exact List.getElem_mem (by have := HN.out; omega))
          obtain ⟨x, hxd⟩ : ∃ x, x = d.getD j 0 := ⟨_, rfl⟩
          rw [← hxd] at hc1 hx
          have HX := Lib.hid hx
          have hjn : (j : Int) < (nd : Int) := by omega
          have j0 : (0 : Int) ≤ (j : Int) := by omega
          clear hxd hr hu1 e2 e3 hx hnx hgr hcd
          go_wp2_with (go_at_call 59; refine (data_true x _ HX.out).mono ?_; rintro e w6 ⟨rfl, rfl⟩)
          go_round
          case rel => exact ⟨j + 1, by omega, by go_num, rfl⟩
          case measure => simp [intOf]; omega
        · have hjn : ¬ (j : Int) < (nd : Int) := by omega
          clear hnx hgr hcd hr
          go_wp2_with (first
            | (go_at_call 61; refine (bare_true _ _ _ _ _ _ _).mono ?_; rintro e w7 ⟨rfl, hg7⟩)
            | (go_at_call 60; refine (in_true m 60 63 _ (by omega) (by omega)).mono ?_; rintro e w8 ⟨rfl, rfl⟩))
          go_ret
          refine ⟨rfl, Gr.trans ?_ hg7⟩
          (repeat (first | with_reducible exact Gr.refl _ | with_reducible assumption | with_reducible refine Gr.setCell ?_ (by simp; try omega) _ | with_reducible refine Gr.alloc ?_ _ | with_reducible refine Gr.drew ?_ | with_reducible refine Gr.drewN ?_ _ | with_reducible refine Gr.trans ?_ (by assumption)))

set_option maxRecDepth 100000 in
set_option maxHeartbeats 2000000 in
theorem check_9 {w : World} {c m : Int} {l d : List Int} {a1 a2 : Option Addr} {np c1 nd c2 : Nat} (hl : IntsOk l) (hd : DatOk d) (hm : MarkOk m) (hnd : nd = d.length) (hr : HasRow w 5 (.slice a2 nd c2) nd (bcells d))
    (hgr : ∀ w', Gr w w' → Calls Tryd.prog 56 #[.agg #[.int .i64 9, .int .u8 c, .int .u8 m, .slice a1 np c1, .string (strOf l), .slice a2 nd c2]] w' fun e w2 => e = .returned (.bool false) ∧ Gr w' w2)
    (hcd : ∀ w', Gr w w' → Calls Tryd.prog 57 #[.agg #[.int .i64 9, .int .u8 c, .int .u8 m, .slice a1 np c1, .string (strOf l), .slice a2 nd c2]] w' fun e w2 => e = .returned (.bool true) ∧ Gr w' w2)
    (hm0 : m = 0) (hp0 : np = 0) (hl0 : l = []) : Checks w 9 c m l (.slice a1 np c1) (.slice a2 nd c2) := by
  have hsz := strOf_size l
  have hlr : ∀ c ∈ l, 0 ≤ c ∧ c < 256 := fun c hc => by have := hl.2 c hc; omega
  have hl3 := hl.1
  have hd4 := hd.1
  have HL := Lib.hid hl.2; have HD := Lib.hid hd.2; have HS : Hid (∀ k (hk : k < (strOf l).size), ∃ x, l[k]? = some x ∧ (((strOf l)[k]'hk).toNat : Int) = x) := Lib.hid fun k hk => strOf_at hlr hk
  have HN := Lib.hid hnd
  have hs0 : strOf l = ⟨#[]⟩ := by rw [hl0]; rfl
  obtain ⟨s, hsd⟩ : ∃ s, s = strOf l := ⟨_, rfl⟩
  unfold Checks
  rw [← hsd] at hsz hgr hcd HS hs0 ⊢
  have hss : s.size ≤ 3 := by omega
  have hnd4 : nd ≤ 4096 := by omega
  have HSZ := Lib.hid hsz
  clear hl hd hlr hl3 hd4 hnd hsd hsz
  subst hm0
  subst hp0
  
  subst hs0
  have hw0 := (Gr.refl w).alloc (.cells #[.int .i64 9, .int .u8 c, .int .u8 0, .slice a1 0 c1, .string ⟨#[]⟩, .slice a2 nd c2] 34)
  have hb0 := heap_alloc_new w (.cells #[.int .i64 9, .int .u8 c, .int .u8 0, .slice a1 0 c1, .string ⟨#[]⟩, .slice a2 nd c2] 34)
  have hTl := blk_lt hb0
  go_enter Tryd.func48, Tryd.ntmps48
  go_wp2_with (first
    | (go_at_call 56; refine (hgr _ hw0).mono ?_; rintro e w2 ⟨rfl, hg2⟩; have hw2 := hw0.trans hg2; obtain ⟨t0, t1, t2, t3, t4, t5, tf⟩ := cells6 (hg2.blk hb0))
    | (go_at_call 57; refine (hcd _ hw2).mono ?_; rintro e w3 ⟨rfl, hg3⟩; have hw3 := hw2.trans hg3; obtain ⟨y0, y1, y2, y3, y4, y5, yf⟩ := cells6 ((hg2.trans hg3).blk hb0)))
  go_loopw [3] (fun g wr => ∃ pos : Nat, pos ≤ 0 ∧ wr = w3.iter ⟨#[]⟩ pos ∧ g = .bool true) (fun _ wr => 0 - wr.iterPos w3.heap.size)
  case atStart => exact ⟨0, Nat.zero_le _, rfl, rfl⟩
  case round =>
    obtain ⟨pos, hpos, rfl, rfl⟩ := hrel
    have hgI : Gr w3 (w3.iter ⟨#[]⟩ pos) := (Gr.refl w3).alloc _
    obtain ⟨v0, v1, v2, v3, v4, v5, vf⟩ := cells6 (((hg2.trans hg3).trans hgI).blk hb0)
    have hw4 := hw3.trans hgI
    have hlt4 := blk_lt (((hg2.trans hg3).trans hgI).blk hb0)
    clear t0 t1 t2 t3 t4 t5 tf y0 y1 y2 y3 y4 y5 yf
    · have hnx : ∀ ty, (Instr.next (.pointer (some ⟨w3.heap.size, 0, none⟩)) true ty).run Tryd.prog (w3.iter ⟨#[]⟩ pos) = _ := fun ty => run_next_end w3 ⟨#[]⟩ pos ty (by show ¬ pos < 0; omega)
      go_wp2_with fail
      go_loop [3, 35] (fun g i => ∃ j : Nat, j ≤ nd ∧ i = .int .i64 j ∧ g = .bool true) (fun _ i => nd - (intOf i).toNat)
      case atStart => exact ⟨0, Nat.zero_le _, rfl, rfl⟩
      case round =>
        obtain ⟨j, hj, rfl, rfl⟩ := hrel
        by_cases hlt : j < nd
        · obtain ⟨g1, p1, u1, hv1, hu1, hc1⟩ := (hr.gr hw4).at_ hlt
          injection hv1 with e1 e2 e3
          subst e1
          have hu := bcells_at' hu1
          subst hu
          have hx := HD.out (d.getD j 0) (by rw [List.getD, List.getElem?_eq_getElem (by have := HN.out; omega)]; exact List.getElem_mem (by have := HN.out; omega))
          obtain ⟨x, hxd⟩ : ∃ x, x = d.getD j 0 := ⟨_, rfl⟩
          rw [← hxd] at hc1 hx
          have HX := Lib.hid hx
          have hjn : (j : Int) < (nd : Int) := by omega
          have j0 : (0 : Int) ≤ (j : Int) := by omega
          clear hxd hr hu1 e2 e3 hx hnx hgr hcd
          go_wp2_with (go_at_call 59; refine (data_true x _ HX.out).mono ?_; rintro e w6 ⟨rfl, rfl⟩)
          go_round
          case rel => exact ⟨j + 1, by omega, by go_num, rfl⟩
          case measure => simp [intOf]; omega
        · have hjn : ¬ (j : Int) < (nd : Int) := by omega
          clear hnx hgr hcd hr
          go_wp2_with (first
            | (go_at_call 61; refine (bare_true _ _ _ _ _ _ _).mono ?_; rintro e w7 ⟨rfl, hg7⟩)
            | (go_at_call 60; refine (in_true m 60 63 _ (by omega) (by omega)).mono ?_; rintro e w8 ⟨rfl, rfl⟩))
          go_ret
          refine ⟨rfl, Gr.trans ?_ hg7⟩
          (repeat (first | with_reducible exact Gr.refl _ | with_reducible assumption | with_reducible refine Gr.setCell ?_ (by simp; try omega) _ | with_reducible refine Gr.alloc ?_ _ | with_reducible refine Gr.drew ?_ | with_reducible refine Gr.drewN ?_ _ | with_reducible refine Gr.trans ?_ (by assumption)))
end Go.Proofs.YtnnhaenmoifplaaDoor
