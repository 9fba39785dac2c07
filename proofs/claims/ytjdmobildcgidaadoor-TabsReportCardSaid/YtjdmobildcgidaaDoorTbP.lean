/-
  Tab stops: acts done on both texts' stops.
-/
import Derived.Test.YtjdmobildcgidaaDoorTbU
import Derived.Test.YtjdmobildcgidaaDoorTbV
import Derived.Deep.DeepCutAuto
import Derived.Deep.RegionHeld3
namespace Go.Proofs.YtjdmobildcgidaaDoor
set_option linter.unusedSimpArgs false
set_option linter.unusedVariables false
open Go.RowKit
set_option linter.unusedVariables false

/-- What is told of an act's fields. -/
def actF : Nat → Value → Prop
  | 0, v => ∃ z, v = .int .i64 z ∧ (Lit.int .i64 z).wf = true
  | 1, v => ∃ z, v = .int .i64 z ∧ (Lit.int .i64 z).wf = true
  | 2, v => ∃ s : ByteArray, v = .string s ∧ s.size ≤ maxLen
  | _, _ => True
theorem act_at {w : World} {a : Option Addr} {len k : Nat} (h : IsStructs w a len 3 actF) (hk : k < len) : ∃ (b off : Nat) (kd n : Int) (t : List UInt8), a = some ⟨b, off, none⟩ ∧ b < w.heap.size ∧ t.length ≤ maxLen ∧
    w.cell? ⟨b, off + k * 3, none⟩ = some (.int .i64 kd) ∧ w.cell? ⟨b, off + k * 3 + 1, none⟩ = some (.int .i64 n) ∧ w.cell? ⟨b, off + k * 3 + 2, none⟩ = some (.string (bsl t)) := by
  rcases h.2 with h0 | ⟨b, off, ha, hb, hc⟩
  · omega
  · obtain ⟨v0, c0, kd, rfl, _⟩ := hc k 0 hk (by omega)
    obtain ⟨v1, c1, n, rfl, _⟩ := hc k 1 hk (by omega)
    obtain ⟨v2, c2, s, rfl, hs⟩ := hc k 2 hk (by omega)
    refine ⟨b, off, kd, n, s.data.toList, ha, hb, ?_, by simpa using c0, by simpa [Nat.add_assoc] using c1, ?_⟩
    · have := bsl_size s.data.toList; rw [← bsl_of s] at this; omega
    · rw [← bsl_of s]; simpa [Nat.add_assoc] using c2
/-- What acts leave. -/
def PlayTo (w : World) (e : Ending) (w' : World) : Prop := ∃ p v l, e = .returned (.tuple #[.pointer (some ⟨p, 0, none⟩), v, .bool true]) ∧ w.heap.size ≤ p ∧ LAt w' p l ∧ BL (p + 1) w' v l ∧ l.length ≤ 500 ∧ Gr w w'

theorem has_l (p : Nat) (l : List Bool) (c : Int) (w : World) (h : LAt w p l) (hc : ¬ (0 ≤ c ∧ c < (l.length : Int))) : Calls Tryd.prog 15 #[.pointer (some ⟨p, 0, none⟩), .int .i64 c] w fun e w' => e = .returned (.bool false) ∧ w = w' :=
  has_out p _ c _ w h (by rw [Bool.and_eq_false_iff]; simp only [decide_eq_false_iff_not]; omega)
theorem cols_l (p : Nat) (l : List Bool) (w : World) (h : LAt w p l) : Calls Tryd.prog 21 #[.pointer (some ⟨p, 0, none⟩)] w fun e w' => e = .returned (.int .i64 (l.length : Nat)) ∧ w = w' := cols_any p _ _ w h

set_option maxRecDepth 100000 in
set_option maxHeartbeats 8000000 in
theorem played_any (c : Int) (a : Option Addr) (len cap : Nat) (w : World) (hacts : IsStructs w a len 3 actF) (hT : TabOk w) (hM : MaxOk w) :
    Calls Tryd.prog 10 #[.int .i64 c, .slice a len cap] w (PlayTo w) := by
  have hlen := hacts.1
  unfold maxLen at hlen
  have HX := Lib.hid hacts
  have HT := Lib.hid hT
  have HM := Lib.hid hM
  clear hacts hT hM
  have hrz := fun (w' : World) => rresize_any 0 (.slice none 0 0) [] c w' (BL.nil 0 w') (by simp)
  go_enter Tryd.func10, Tryd.ntmps10
  go_wp2_with (first
    | (go_at_call 28; (with_reducible refine (new_l c _).mono ?_); rintro e w1 ⟨p, hp, rfl, hl1, hg1⟩)
    | (go_at_call 17; (with_reducible refine (hrz _).mono ?_); rintro e w2 ⟨v2, rfl, hb2, hg2⟩))
  have hpl := (Array.getElem?_eq_some_iff.1 hl1).1
  have hl2 : LAt w2 p (rszL [] c) := StAt.gr hl1 hg2
  have hb3 : BL (p + 1) w2 v2 (rszL [] c) := hb2.le (by omega)
  have hgw : Gr w w2 := hg1.trans hg2
  have hn2 : (rszL [] c).length ≤ 500 := by rw [rszL_len]; exact clN_le c
  clear hl1 hb2 hg1 hg2 hrz
  go_loopw [8, 9] (fun v iv wr => ∃ (k : Nat) (l : List Bool), iv = .int .i64 (k : Int) ∧ k ≤ len ∧ k ≤ 40 ∧ LAt wr p l ∧ BL (p + 1) wr v l ∧ l.length ≤ 500 ∧ Gr w wr) (fun _ iv _ => 40 - (intOf iv).toNat)
  case atStart => exact ⟨0, _, rfl, by omega, by omega, hl2, hb3, hn2, hgw⟩
  case round =>
    clear hl2 hb3 hn2 hgw
    obtain ⟨k, l, rfl, hk, hk40, hst, hbl, hln, hgr⟩ := hrel
    by_cases hlt : k < len
    · by_cases hk4 : k < 40
      · obtain ⟨b, off, kd, n, t, rfl, hbw, htl, c0, c1, c2⟩ := act_at (HX.out.gr hgr) hlt
        have hki : (k : Int) < (len : Int) := by omega
        have hki4 : (k : Int) < 40 := by omega
        have hk0 : (0 : Int) ≤ (k : Int) := by omega
        obtain ⟨va, cap', rfl⟩ := hbl.1.form
        go_upto_block 2 with fail
        have hb0 := heap_alloc_new wr (.cells #[.int .i64 kd, .int .i64 n, .string (bsl t)] 54)
        have hg0 : Gr wr (wr.alloc (.cells #[.int .i64 kd, .int .i64 n, .string (bsl t)] 54)) := (Gr.refl _).alloc _
        have hpr := (Array.getElem?_eq_some_iff.1 hst).1
        obtain ⟨bx, hbx⟩ : ∃ bx, bx = wr.heap.size := ⟨_, rfl⟩
        obtain ⟨W0, hW0⟩ : ∃ W0, W0 = wr.alloc (.cells #[.int .i64 kd, .int .i64 n, .string (bsl t)] 54) := ⟨_, rfl⟩
        rw [← hW0] at hb0 hg0 ⊢
        rw [← hbx] at hb0 ⊢
        have hpb : p < bx := by omega
        have hbxr : wr.heap.size ≤ bx := by omega
        clear hW0 hbx
        have k0 := cell_of_row hb0 0 _ rfl
        have k1 := cell_of_row hb0 1 _ rfl
        have k2 := cell_of_row hb0 2 _ rfl
        have kf : W0.frozen? ⟨bx, 2, none⟩ = false := by simp [World.frozen?, hb0]
        have hset := fun (W : World) (hg : Gr wr W) => set_l p l n W (StAt.gr hst hg) hln
        have hclr := fun (W : World) (hg : Gr wr W) => clear_l p l n W (StAt.gr hst hg) hln
        have hcla := fun (W : World) (hg : Gr wr W) => clearAll_l p l W (StAt.gr hst hg)
        have hrsz := fun (W : World) (hg : Gr wr W) => resize_l p l n W (StAt.gr hst hg) hln
        have hbu : ∀ (W W3 : World), Gr wr W → Upd [p] W W3 → BL (p + 1) W3 (.slice va l.length cap') l := fun W W3 hg hu => (hbl.gr hg).upd hu (by simp)
        have hrrs := fun (W : World) (hg : Gr wr W) (W3 : World) (hu : Upd [p] W W3) => rresize_any (p + 1) (.slice va l.length cap') l n W3 (hbu W W3 hg hu) hln
        have hput := fun (b : Bool) (W : World) (hg : Gr wr W) (W3 : World) (hu : Upd [p] W W3) => put_any (p + 1) (.slice va l.length cap') l n b W3 (hbu W W3 hg hu) hln
        have hpu : ∀ (W W3 W4 : World), Gr wr W → Upd [p] W W3 → Gr W3 W4 → Gr w W4 := fun W W3 W4 h1 h2 h3 => (Gr.upd (hgr.trans h1) h2 (by simp; omega)).trans h3
        have hbk : ∀ (W3 : World), Upd [p] W0 W3 → W3.cell? ⟨bx, 0, none⟩ = some (.int .i64 kd) ∧ W3.cell? ⟨bx, 1, none⟩ = some (.int .i64 n) := fun W3 hu => ⟨cell_of_row (hu.blk hb0 (by simp; omega)) 0 _ rfl, cell_of_row (hu.blk hb0 (by simp; omega)) 1 _ rfl⟩
        have hmk := make_bools l.length (by omega)
        go_cut [8] (fun v wx => ∃ (l' : List Bool), LAt wx p l' ∧ BL (p + 1) wx v l' ∧ l'.length ≤ 500 ∧ Gr w wx ∧ wx.cell? ⟨bx, 1, none⟩ = some (.int .i64 n))
        case first =>
          have HST := Lib.hid hst
          have HBL := Lib.hid hbl
          have HB0 := Lib.hid hb0
          by_cases h1 : kd = 1
          · subst h1
            clear hst hbl hb0
            go_wp2_with (first
              | (go_at_call 24; (with_reducible refine (hset _ hg0).mono ?_); rintro e w3 ⟨rfl, hl3, hu3⟩; obtain ⟨q0, q1⟩ := hbk _ hu3)
              | (go_at_call 29; (with_reducible refine (hclr _ hg0).mono ?_); rintro e w3 ⟨rfl, hl3, hu3⟩; obtain ⟨q0, q1⟩ := hbk _ hu3)
              | (go_at_call 23; (with_reducible refine (hcla _ hg0).mono ?_); rintro e w3 ⟨rfl, hl3, hu3⟩; obtain ⟨q0, q1⟩ := hbk _ hu3)
              | (go_at_call 16; (with_reducible refine (hrsz _ hg0).mono ?_); rintro e w3 ⟨rfl, hl3, hu3⟩; obtain ⟨q0, q1⟩ := hbk _ hu3)
              | (go_at_call 17; (with_reducible refine (hrrs _ hg0 _ hu3).mono ?_); rintro e w4 ⟨v4, rfl, hb4, hg4⟩)
              | (go_at_call 30; (with_reducible refine (hput _ _ hg0 _ hu3).mono ?_); rintro e w4 ⟨v4, rfl, hb4, hg4⟩))
            go_meet
            exact ⟨_, StAt.gr hl3 hg4, hb4.le (by have := hu3.size; have := hg0.size; omega), by rw [putL_len]; exact hln, hpu _ _ _ hg0 hu3 hg4, hg4.cellAt q1⟩
          by_cases h2 : kd = 2
          · subst h2
            clear hst hbl hb0 h1
            go_wp2_with (first
              | (go_at_call 24; (with_reducible refine (hset _ hg0).mono ?_); rintro e w3 ⟨rfl, hl3, hu3⟩; obtain ⟨q0, q1⟩ := hbk _ hu3)
              | (go_at_call 29; (with_reducible refine (hclr _ hg0).mono ?_); rintro e w3 ⟨rfl, hl3, hu3⟩; obtain ⟨q0, q1⟩ := hbk _ hu3)
              | (go_at_call 23; (with_reducible refine (hcla _ hg0).mono ?_); rintro e w3 ⟨rfl, hl3, hu3⟩; obtain ⟨q0, q1⟩ := hbk _ hu3)
              | (go_at_call 16; (with_reducible refine (hrsz _ hg0).mono ?_); rintro e w3 ⟨rfl, hl3, hu3⟩; obtain ⟨q0, q1⟩ := hbk _ hu3)
              | (go_at_call 17; (with_reducible refine (hrrs _ hg0 _ hu3).mono ?_); rintro e w4 ⟨v4, rfl, hb4, hg4⟩)
              | (go_at_call 30; (with_reducible refine (hput _ _ hg0 _ hu3).mono ?_); rintro e w4 ⟨v4, rfl, hb4, hg4⟩))
            go_meet
            exact ⟨_, StAt.gr hl3 hg4, hb4.le (by have := hu3.size; have := hg0.size; omega), by rw [putL_len]; exact hln, hpu _ _ _ hg0 hu3 hg4, hg4.cellAt q1⟩
          have h1b : (kd == 1) = false := by simpa using h1
          have h2b : (kd == 2) = false := by simpa using h2
          clear h1 h2
          by_cases h3 : kd = 3
          · subst h3
            clear hst hbl hb0
            go_wp2_with (first
              | (go_at_call 24; (with_reducible refine (hset _ hg0).mono ?_); rintro e w3 ⟨rfl, hl3, hu3⟩; obtain ⟨q0, q1⟩ := hbk _ hu3)
              | (go_at_call 29; (with_reducible refine (hclr _ hg0).mono ?_); rintro e w3 ⟨rfl, hl3, hu3⟩; obtain ⟨q0, q1⟩ := hbk _ hu3)
              | (go_at_call 23; (with_reducible refine (hcla _ hg0).mono ?_); rintro e w3 ⟨rfl, hl3, hu3⟩; obtain ⟨q0, q1⟩ := hbk _ hu3)
              | (go_at_call 16; (with_reducible refine (hrsz _ hg0).mono ?_); rintro e w3 ⟨rfl, hl3, hu3⟩; obtain ⟨q0, q1⟩ := hbk _ hu3)
              | (go_at_call 17; (with_reducible refine (hrrs _ hg0 _ hu3).mono ?_); rintro e w4 ⟨v4, rfl, hb4, hg4⟩)
              | (go_at_call 30; (with_reducible refine (hput _ _ hg0 _ hu3).mono ?_); rintro e w4 ⟨v4, rfl, hb4, hg4⟩))
            go_meet
            refine ⟨List.replicate l.length false, StAt.gr hl3 ((Gr.refl _).alloc _), (BB.bl (heap_alloc_new _ _) (by have := hu3.size; have := hg0.size; omega) (by simp)), by simpa using hln, hpu _ _ _ hg0 hu3 ((Gr.refl _).alloc _), (Gr.alloc (Gr.refl _) _).cellAt q1⟩
          have h3b : (kd == 3) = false := by simpa using h3
          clear h3
          by_cases h4 : kd = 4
          · subst h4
            clear hst hbl hb0
            go_wp2_with (first
              | (go_at_call 24; (with_reducible refine (hset _ hg0).mono ?_); rintro e w3 ⟨rfl, hl3, hu3⟩; obtain ⟨q0, q1⟩ := hbk _ hu3)
              | (go_at_call 29; (with_reducible refine (hclr _ hg0).mono ?_); rintro e w3 ⟨rfl, hl3, hu3⟩; obtain ⟨q0, q1⟩ := hbk _ hu3)
              | (go_at_call 23; (with_reducible refine (hcla _ hg0).mono ?_); rintro e w3 ⟨rfl, hl3, hu3⟩; obtain ⟨q0, q1⟩ := hbk _ hu3)
              | (go_at_call 16; (with_reducible refine (hrsz _ hg0).mono ?_); rintro e w3 ⟨rfl, hl3, hu3⟩; obtain ⟨q0, q1⟩ := hbk _ hu3)
              | (go_at_call 17; (with_reducible refine (hrrs _ hg0 _ hu3).mono ?_); rintro e w4 ⟨v4, rfl, hb4, hg4⟩)
              | (go_at_call 30; (with_reducible refine (hput _ _ hg0 _ hu3).mono ?_); rintro e w4 ⟨v4, rfl, hb4, hg4⟩))
            go_meet
            exact ⟨_, StAt.gr hl3 hg4, hb4.le (by have := hu3.size; have := hg0.size; omega), by rw [rszL_len]; exact clN_le _, hpu _ _ _ hg0 hu3 hg4, hg4.cellAt q1⟩
          have h4b : (kd == 4) = false := by simpa using h4
          clear h4
          by_cases h5 : kd = 5
          · subst h5
            have hsz := bsl_size t
            have hext := bsl_extract t 0 3000
            rw [List.drop_zero, Nat.sub_zero] at hext
            have hrst := fun (u : List UInt8) (hu : u.length ≤ 3000) (W : World) (hg : Gr wr W) => restore_l p l u W (StAt.gr hst hg) hln (by omega) (HM.out.gr (hgr.trans hg))
            have hrrt := fun (u : List UInt8) (hu : u.length ≤ 3000) (W : World) (hg : Gr wr W) (W3 : World) (hu3 : Upd [p] W W3) => rrestore_any (p + 1) (.slice va l.length cap') l u W3 (hbu W W3 hg hu3) hln (by omega) (by have := hu3.size; have := hg.size; omega)
            by_cases h3k : 3000 < t.length
            · have hbs : Hid (W0.heap[bx]? = some (.cells #[.int .i64 5, .int .i64 n, .string (bsl t)] 54 (0, 0))) := Lib.hid hb0
              have hs3 : (t.take 3000).length ≤ 3000 := by rw [List.length_take]; omega
              have hb5 : (W0.setCell ⟨bx, 2, none⟩ (.string (bsl (t.take 3000)))).heap[bx]? = some (.cells #[.int .i64 5, .int .i64 n, .string (bsl (t.take 3000))] 54 (0, 0)) := blk_set hb0 2 (.string (bsl (t.take 3000)))
              have hg5 : Gr wr (W0.setCell ⟨bx, 2, none⟩ (.string (bsl (t.take 3000)))) := Gr.setCell hg0 hbxr _
              have hbk5 : ∀ (W3 : World), Upd [p] (W0.setCell ⟨bx, 2, none⟩ (.string (bsl (t.take 3000)))) W3 → W3.cell? ⟨bx, 2, none⟩ = some (.string (bsl (t.take 3000))) ∧ W3.cell? ⟨bx, 1, none⟩ = some (.int .i64 n) := fun W3 hu => ⟨cell_of_row (hu.blk hb5 (by simp; omega)) 2 _ rfl, cell_of_row (hu.blk hb5 (by simp; omega)) 1 _ rfl⟩
              have hrs5 := hrst (t.take 3000) hs3 _ hg5
              have hrr5 := hrrt (t.take 3000) hs3 _ hg5
              have hl5 := rstL_len l (t.take 3000)
              obtain ⟨u, hu⟩ : ∃ u, u = t.take 3000 := ⟨_, rfl⟩
              rw [← hu] at hext hrs5 hrr5 hbk5 hg5 hl5
              obtain ⟨E5, hE5⟩ : ∃ E5, E5 = rstE l u := ⟨_, rfl⟩
              rw [← hE5] at hrs5 hrr5
              have h3i : (3000 : Int) < (t.length : Int) := by omega
              have hsl : 3000 ≤ (bsl t).size := by omega
              obtain ⟨ss, hss⟩ : ∃ ss, ss = bsl t := ⟨_, rfl⟩
              rw [← hss] at k2 hext hsz hsl
              have hs3i : 3000 < ss.size := by omega
              have hssb : ss.size ≤ maxLen := by omega
              clear hst hbl hb0 hb5 hu hE5 hss hbs hrst hrrt hs3 h3k htl
              go_wp2_with (first
                | (go_at_call 27; (with_reducible refine hrs5.mono ?_); rintro e w3 ⟨rfl, hl3, hu3⟩; obtain ⟨q2, q1⟩ := hbk5 _ hu3)
                | (go_at_call 31; (with_reducible refine (hrr5 _ hu3).mono ?_); rintro e w4 ⟨v4, rfl, hb4, hg4⟩))
              go_meet
              exact ⟨_, StAt.gr hl3 hg4, hb4, by rw [hl5]; exact hln, hpu _ _ _ hg5 hu3 hg4, hg4.cellAt q1⟩
            · have hrs5 := hrst t (by omega) _ hg0
              have hrr5 := hrrt t (by omega) _ hg0
              have hbk5 : ∀ (W3 : World), Upd [p] W0 W3 → W3.cell? ⟨bx, 2, none⟩ = some (.string (bsl t)) ∧ W3.cell? ⟨bx, 1, none⟩ = some (.int .i64 n) := fun W3 hu => ⟨cell_of_row (hu.blk hb0 (by simp; omega)) 2 _ rfl, cell_of_row (hu.blk hb0 (by simp; omega)) 1 _ rfl⟩
              have hl5 := rstL_len l t
              obtain ⟨E5, hE5⟩ : ∃ E5, E5 = rstE l t := ⟨_, rfl⟩
              rw [← hE5] at hrs5 hrr5
              have hs3i : ¬ 3000 < (bsl t).size := by omega
              clear hst hbl hb0 hE5 hrst hrrt h3k htl
              go_wp2_with (first
                | (go_at_call 27; (with_reducible refine hrs5.mono ?_); rintro e w3 ⟨rfl, hl3, hu3⟩; obtain ⟨q2, q1⟩ := hbk5 _ hu3)
                | (go_at_call 31; (with_reducible refine (hrr5 _ hu3).mono ?_); rintro e w4 ⟨v4, rfl, hb4, hg4⟩))
              go_meet
              exact ⟨_, StAt.gr hl3 hg4, hb4, by rw [hl5]; exact hln, hpu _ _ _ hg0 hu3 hg4, hg4.cellAt q1⟩
          have h5b : (kd == 5) = false := by simpa using h5
          clear h5 hst hbl hb0
          go_wp2_with fail
          go_meet
          exact ⟨l, StAt.gr HST.out hg0, HBL.out.gr hg0, hln, hgr.trans hg0, k1⟩
        case rest =>
          clear hset hclr hcla hrsz hbu hrrs hput hpu hbk hmk hg0 hb0 k0 k1 k2 kf hst hbl hgr hln hpr hbxr c0 c1 c2 hbw htl
          obtain ⟨l, hst, hbl, hln, hgr, kn⟩ := hcut
          obtain ⟨va, cap', rfl⟩ := hbl.1.form
          have hcols := fun (W : World) (hg : Gr wc W) => cols_l p l W (StAt.gr hst hg)
          have hlist := fun (W : World) (hg : Gr wc W) => list_any p _ _ W (StAt.gr hst hg) ((HT.out.gr hgr).gr hg)
          have hrlist := fun (W : World) (hg : Gr wc W) => rlist_any (p + 1) _ l W (hbl.gr hg) hln
          have hnl : (listF (lf l) 512).length ≤ 100000 := by have := listF_len (lf l) 512; omega
          obtain ⟨N, hN⟩ : ∃ N, N = l.length := ⟨_, rfl⟩
          have hlN : N ≤ 500 := by omega
          by_cases h0 : 0 ≤ n
          · by_cases h1 : n < (l.length : Int)
            · obtain ⟨j, rfl⟩ : ∃ j : Nat, n = j := ⟨n.toNat, by omega⟩
              have hhas := fun (W : World) (hg : Gr wc W) => has_in p l.length j (lf l) W (StAt.gr hst hg) hln (by omega)
              obtain ⟨g, cap2, hv, hc⟩ := hbl.at_ (k := j) (by omega)
              injection hv with e1 e2 e3
              subst e1 e3
              have hfb : lf l j = l.getD j false := rfl
              obtain ⟨bb, hbb⟩ : ∃ bb, bb = l.getD j false := ⟨_, rfl⟩
              rw [← hbb] at hfb hc
              rw [hfb] at hhas
              rw [← hN] at hcols hrlist h1 ⊢
              have HN := Lib.hid hN
              have HST := Lib.hid hst
              have HBL := Lib.hid hbl
              clear hN hst hbl hfb hbb e2 hln
              go_upto_region 27 with fail
              go_region_held3 (fun w9 => Gr wc w9 ∧ w9.cell? ⟨bx, 1, none⟩ = some (.int .i64 (j : Int)) ∧ w9.cell? ⟨g, j, none⟩ = some (.bool bb))
                ((refine (fun hg => ⟨hg, hg.cellAt kn, hg.cellAt hc⟩) ?_; (repeat (first | with_reducible exact Gr.refl _ | with_reducible assumption | with_reducible refine Gr.setCell ?_ (by simp; try omega) _ | with_reducible refine Gr.alloc ?_ _ | with_reducible refine Gr.drew ?_ | with_reducible refine Gr.drewN ?_ _ | with_reducible refine Gr.trans ?_ (by assumption)))))
                (first
              | (go_at_call 21; (with_reducible refine (hcols _ ?_).mono ?_); ((repeat (first | with_reducible exact Gr.refl _ | with_reducible assumption | with_reducible refine Gr.setCell ?_ (by simp; try omega) _ | with_reducible refine Gr.alloc ?_ _ | with_reducible refine Gr.drew ?_ | with_reducible refine Gr.drewN ?_ _ | with_reducible refine Gr.trans ?_ (by assumption)))); rintro e w5 ⟨rfl, rfl⟩)
              | (go_at_call 19; (with_reducible refine (hlist _ ?_).mono ?_); ((repeat (first | with_reducible exact Gr.refl _ | with_reducible assumption | with_reducible refine Gr.setCell ?_ (by simp; try omega) _ | with_reducible refine Gr.alloc ?_ _ | with_reducible refine Gr.drew ?_ | with_reducible refine Gr.drewN ?_ _ | with_reducible refine Gr.trans ?_ (by assumption)))); rintro e w6 ⟨va6, cap6, rfl, hown6, hg6⟩)
              | (go_at_call 20; (with_reducible refine (hrlist _ ?_).mono ?_); ((repeat (first | with_reducible exact Gr.refl _ | with_reducible assumption | with_reducible refine Gr.setCell ?_ (by simp; try omega) _ | with_reducible refine Gr.alloc ?_ _ | with_reducible refine Gr.drew ?_ | with_reducible refine Gr.drewN ?_ _ | with_reducible refine Gr.trans ?_ (by assumption)))); rintro e w7 ⟨va7, cap7, rfl, hown7, hg7⟩)
              | (go_at_call 18; (with_reducible refine (same_nums (HasRow.of_own (ownsRow_gr hown6 ?_)) (HasRow.of_own (ownsRow_gr hown7 ?_)) hnl).mono ?_); ((repeat (first | with_reducible exact Gr.refl _ | with_reducible assumption | with_reducible refine Gr.setCell ?_ (by simp; try omega) _ | with_reducible refine Gr.alloc ?_ _ | with_reducible refine Gr.drew ?_ | with_reducible refine Gr.drewN ?_ _ | with_reducible refine Gr.trans ?_ (by assumption)))); ((repeat (first | with_reducible exact Gr.refl _ | with_reducible assumption | with_reducible refine Gr.setCell ?_ (by simp; try omega) _ | with_reducible refine Gr.alloc ?_ _ | with_reducible refine Gr.drew ?_ | with_reducible refine Gr.drewN ?_ _ | with_reducible refine Gr.trans ?_ (by assumption)))); rintro e w8 ⟨rfl, hg8⟩)
              | (go_at_call 15; (with_reducible refine (hhas _ ?_).mono ?_); ((repeat (first | with_reducible exact Gr.refl _ | with_reducible assumption | with_reducible refine Gr.setCell ?_ (by simp; try omega) _ | with_reducible refine Gr.alloc ?_ _ | with_reducible refine Gr.drew ?_ | with_reducible refine Gr.drewN ?_ _ | with_reducible refine Gr.trans ?_ (by assumption)))); rintro e w9 ⟨rfl, rfl⟩))
              all_goals
                go_wp2_with fail
                go_roundw
                case rel => exact ⟨k + 1, l, by go_num, by omega, by omega, StAt.gr HST.out (by (repeat (first | with_reducible exact Gr.refl _ | with_reducible assumption | with_reducible refine Gr.setCell ?_ (by simp; try omega) _ | with_reducible refine Gr.alloc ?_ _ | with_reducible refine Gr.drew ?_ | with_reducible refine Gr.drewN ?_ _ | with_reducible refine Gr.trans ?_ (by assumption)))), by rw [HN.out]; exact HBL.out.gr (by (repeat (first | with_reducible exact Gr.refl _ | with_reducible assumption | with_reducible refine Gr.setCell ?_ (by simp; try omega) _ | with_reducible refine Gr.alloc ?_ _ | with_reducible refine Gr.drew ?_ | with_reducible refine Gr.drewN ?_ _ | with_reducible refine Gr.trans ?_ (by assumption)))), by have := HN.out; omega, hgr.trans (by (repeat (first | with_reducible exact Gr.refl _ | with_reducible assumption | with_reducible refine Gr.setCell ?_ (by simp; try omega) _ | with_reducible refine Gr.alloc ?_ _ | with_reducible refine Gr.drew ?_ | with_reducible refine Gr.drewN ?_ _ | with_reducible refine Gr.trans ?_ (by assumption))))⟩
                case measure => simp [intOf]; omega
            · have h1d : ¬ n < (N : Int) := by omega
              have hhas := fun (W : World) (hg : Gr wc W) => has_l p l n W (StAt.gr hst hg) (by omega)
              rw [← hN] at hcols hrlist ⊢
              have HN := Lib.hid hN
              have HST := Lib.hid hst
              have HBL := Lib.hid hbl
              clear hN hst hbl hln
              go_upto_region 27 with fail
              refine reg27B _ p N bx va cap' n l wc _ _ _ _ _ _ _ _ _ _ _ _ _ _ _ _ _ _ _ _ _ _ _ _ _ _ _ _ _ _ _ _ _ _ _ _ _ _ _ _ _ _ _ _ _ _ _ _ _ _ _ _ _ _ _ _ _ _ _ _ _ _ _ _ _ _ _ _ _ _ _ _ _ _ _ _ _ _ _ _ _ _ _ _ _ _ _ _ _ _ _ _ _ _ _ _ _ _ _ _ _ _ _ _ _ _ _ _ _ _ _ _ _ _ _ _ _ _ _ _ _ _ _ _ _ _ _ _ _ _ _ h0 h1d hcols hlist hrlist hhas hnl kn ?_
              intro y0 y1 y2 y3 y4 y5 y6 y7 y8 y9 y10 y11 y12 y13 y14 y15 y16 y17 y18 y19 y20 y21 y22 y23 y24 y25 y26 y27 y28 y29 y30 y31 y32 y33 y34 y35 w4 hB
              go_wp2_with fail
              go_roundw
              case rel => exact ⟨k + 1, l, by go_num, by omega, by omega, StAt.gr HST.out hB, by rw [HN.out]; exact HBL.out.gr hB, by have := HN.out; omega, hgr.trans hB⟩
              case measure => simp [intOf]; omega
          · have h0d : ¬ 0 ≤ n := h0
            have hhas := fun (W : World) (hg : Gr wc W) => has_l p l n W (StAt.gr hst hg) (by omega)
            rw [← hN] at hcols hrlist ⊢
            have HN := Lib.hid hN
            have HST := Lib.hid hst
            have HBL := Lib.hid hbl
            clear hN hst hbl hln
            go_upto_region 27 with fail
            refine reg27C _ p N bx va cap' n l wc _ _ _ _ _ _ _ _ _ _ _ _ _ _ _ _ _ _ _ _ _ _ _ _ _ _ _ _ _ _ _ _ _ _ _ _ _ _ _ _ _ _ _ _ _ _ _ _ _ _ _ _ _ _ _ _ _ _ _ _ _ _ _ _ _ _ _ _ _ _ _ _ _ _ _ _ _ _ _ _ _ _ _ _ _ _ _ _ _ _ _ _ _ _ _ _ _ _ _ _ _ _ _ _ _ _ _ _ _ _ _ _ _ _ _ _ _ _ _ _ _ _ _ _ _ _ _ _ _ _ _ h0d hcols hlist hrlist hhas hnl kn ?_
            intro y0 y1 y2 y3 y4 y5 y6 y7 y8 y9 y10 y11 y12 y13 y14 y15 y16 y17 y18 y19 y20 y21 y22 y23 y24 y25 y26 y27 y28 y29 y30 y31 y32 y33 y34 y35 w4 hB
            go_wp2_with fail
            go_roundw
            case rel => exact ⟨k + 1, l, by go_num, by omega, by omega, StAt.gr HST.out hB, by rw [HN.out]; exact HBL.out.gr hB, by have := HN.out; omega, hgr.trans hB⟩
            case measure => simp [intOf]; omega
      · have hki : (k : Int) < (len : Int) := by omega
        have hki4 : ¬ (k : Int) < 40 := by omega
        obtain ⟨va, cap', rfl⟩ := hbl.1.form
        go_wp2_with fail
        refine bodyPost_ret (results_tmp3 rfl _ _ _) rfl ?_
        exact ⟨p, _, l, rfl, hp, hst, hbl, hln, hgr⟩
    · have hki : ¬ (k : Int) < (len : Int) := by omega
      obtain ⟨va, cap', rfl⟩ := hbl.1.form
      go_wp2_with fail
      refine bodyPost_ret (results_tmp3 rfl _ _ _) rfl ?_
      exact ⟨p, _, l, rfl, hp, hst, hbl, hln, hgr⟩
end Go.Proofs.YtjdmobildcgidaaDoor
