/-
  The law that every token that a stream says can be, walked.
-/
import Derived.Test.YtgbmjlajheeciaaPdU
import Derived.Test.YtgbmjlajheeciaaPdF
namespace Go.Proofs.Ytgbmjlajheeciaa
set_option linter.unusedSimpArgs false
set_option linter.unusedVariables false
open Go.RowKit

theorem check_can {w : World} {t : Tok} {q : Value × Value} (hc : Can t) (h : RTok w t q) : Calls Try.prog 21 #[.agg (tcells t q).toArray] w fun e w' => e = .returned (.int .i64 0) ∧ Gr w w' := by
  obtain ⟨qp, qd⟩ := q
  obtain ⟨a1, c1, hv1⟩ := h.params.form
  obtain ⟨a2, c2, hv2⟩ := h.data.form
  simp only at hv1 hv2
  subst hv1; subst hv2
  cases hc with
  | print c hh =>
    exact check_1 (l := []) (d := []) intsOk_nil ⟨by simp, by simp⟩ (.inl rfl) rfl h.data (fun w' hg => great_false (ps := []) (l := []) (d := []) ⟨by simp, by simp⟩ intsOk_nil (by simp) (h.params.gr hg) (h.data.gr hg)) (fun w' hg => code_print c 0 _ _ _ _ _ _ _ _ (hh.imp id fun x => x.1)) rfl rfl rfl rfl rfl
  | ctrl c hh =>
    exact check_2 (l := []) (d := []) intsOk_nil ⟨by simp, by simp⟩ (.inl rfl) rfl h.data (fun w' hg => great_false (ps := []) (l := []) (d := []) ⟨by simp, by simp⟩ intsOk_nil (by simp) (h.params.gr hg) (h.data.gr hg)) (fun w' hg => code_ctrl c 0 _ _ _ _ _ _ _ _ hh) rfl rfl rfl rfl rfl
  | esc c l hh hl hx =>
    refine check_3 (l := l) (d := []) hl ⟨by simp, by simp⟩ (.inl rfl) rfl h.data (fun w' hg => great_false (ps := []) (l := l) (d := []) ⟨by simp, by simp⟩ hl (by simp) (h.params.gr hg) (h.data.gr hg)) (fun w' hg => ?_) rfl rfl rfl rfl
    by_cases hl0 : l = []
    · subst hl0
      exact code_esc_none c 0 _ _ _ _ _ _ _ hh (hx rfl).1 (hx rfl).2
    · exact code_esc_some c 0 _ _ _ _ _ _ _ (strOf_ne hl0) _ hh
  | csi c m ps l hh hm hp hl =>
    exact check_4 (l := l) (d := []) hl ⟨by simp, by simp⟩ hm rfl h.data (fun w' hg => great_false (ps := ps) (l := l) (d := []) hp hl (by simp) (h.params.gr hg) (h.data.gr hg)) (fun w' hg => code_long 4 c m (.inl rfl) _ _ _ _ _ _ _ _ hh) rfl rfl
  | dcs c m ps l d hh hm hp hl hd =>
    exact check_5 (l := l) (d := d) hl hd hm rfl h.data (fun w' hg => great_false (ps := ps) (l := l) (d := d) hp hl hd.1 (h.params.gr hg) (h.data.gr hg)) (fun w' hg => code_long 5 c m (.inr rfl) _ _ _ _ _ _ _ _ hh)
  | str k d hk hd =>
    have hg0 := fun w' (hg : Gr w w') => great_false (k := k) (c := 0) (m := 0) (ps := []) (l := []) (d := d) ⟨by simp, by simp⟩ intsOk_nil hd.1 (h.params.gr hg) (h.data.gr hg)
    have hc0 := fun w' (_ : Gr w w') => code_str k 0 hk a1 a2 0 c1 d.length c2 (strOf []) w'
    rcases (by omega : k = 6 ∨ k = 7 ∨ k = 8 ∨ k = 9) with rfl | rfl | rfl | rfl
    · exact check_6 (l := []) (d := d) intsOk_nil hd (.inl rfl) rfl h.data hg0 hc0 rfl rfl rfl
    · exact check_7 (l := []) (d := d) intsOk_nil hd (.inl rfl) rfl h.data hg0 hc0 rfl rfl rfl
    · exact check_8 (l := []) (d := d) intsOk_nil hd (.inl rfl) rfl h.data hg0 hc0 rfl rfl rfl
    · exact check_9 (l := []) (d := d) intsOk_nil hd (.inl rfl) rfl h.data hg0 hc0 rfl rfl rfl

set_option maxRecDepth 100000 in
set_option maxHeartbeats 1000000 in
theorem bounds_out {w : World} {a : Option Addr} {len cap : Nat} {n : Int} {zs : List Int} (h : IsRow .u8 w a len cap zs) (ho : len = 0 ∨ n < 1 ∨ 60 < n) :
    Calls Try.prog 9 #[.slice a len cap, .int .i64 n] w fun e w' => e = .returned (.bool true) ∧ Gr w w' := by
  obtain ⟨hr, hln, hl, hlc, hcm, hpl⟩ := h.rd (n := 0) (by omega)
  have hsh := fun w' : World => short_walk a len cap 200 w' (by omega) hlc
  obtain ⟨k, hk⟩ : ∃ k, k = min len 200 := ⟨_, rfl⟩
  have ho : k = 0 ∨ n < 1 ∨ 60 < n := by omega
  rw [← hk] at hsh
  clear hr hln hl hcm hpl h hk
  rcases ho with rfl | ho | ho
  · go_enter Try.func9, Try.ntmps9
    go_wp2_with (first
      | (go_at_call 10; refine (awake_walk _).mono ?_; rintro e w1 ⟨rfl, hg1⟩)
      | (go_at_call 11; refine (hsh _).mono ?_; rintro e w1' ⟨rfl, rfl⟩))
    go_ret
    exact ⟨rfl, hg1⟩
  all_goals
    by_cases hk0 : k = 0
    · subst hk0
      go_enter Try.func9, Try.ntmps9
      go_wp2_with (first
        | (go_at_call 10; refine (awake_walk _).mono ?_; rintro e w1 ⟨rfl, hg1⟩)
        | (go_at_call 11; refine (hsh _).mono ?_; rintro e w1' ⟨rfl, rfl⟩))
      go_ret
      exact ⟨rfl, hg1⟩
    · go_enter Try.func9, Try.ntmps9
      go_wp2_with (first
        | (go_at_call 10; refine (awake_walk _).mono ?_; rintro e w1 ⟨rfl, hg1⟩)
        | (go_at_call 11; refine (hsh _).mono ?_; rintro e w1' ⟨rfl, rfl⟩))
      go_ret
      exact ⟨rfl, hg1⟩

/-- Where the parser stands after some rounds. -/
def BoundsAt (w : World) (p : Nat) (wr : World) : Prop := ∃ s lv, PP lv wr p s ∧ Inv s ∧ s.ok ∧ OwnL w.heap.size lv ∧ Gr w wr
set_option maxRecDepth 100000 in
set_option maxHeartbeats 4000000 in
theorem bounds_in {w : World} {a : Option Addr} {len cap N : Nat} {zs : List Int} (h : IsRow .u8 w a len cap zs) (h0 : 0 < len) (hN : 1 ≤ N) (hN2 : N ≤ 60) :
    Calls Try.prog 9 #[.slice a len cap, .int .i64 N] w fun e w' => e = .returned (.bool true) ∧ Gr w w' := by
  obtain ⟨k, hk⟩ : ∃ k, k = min len 200 := ⟨_, rfl⟩
  obtain ⟨hr, hln, hl, hlc, hcm, hpl⟩ := h.rd (n := k) (by omega)
  have hk0 : 0 < k := by omega
  have hk2 : k ≤ 200 := by omega
  have hsh := fun w' : World => short_walk a len cap 200 w' (by omega) hlc
  rw [← hk] at hsh
  obtain ⟨l, hld⟩ : ∃ l, l = zs.take k := ⟨_, rfl⟩
  rw [← hld] at hr hln hl
  have HL := Lib.hid hl; have HR := Lib.hid hr; have HN := Lib.hid hln
  have hkz : ((k : Int) == 0) = false := by simp; omega
  have hkz2 : ¬ k = 0 := by omega
  have hn1 : ¬ (N : Int) < 1 := by omega
  have hn60 : ¬ (60 : Int) < (N : Int) := by omega
  clear hl hr hln hld hcm hpl h hk
  go_enter Try.func9, Try.ntmps9
  go_wp2_with (first
    | (go_at_call 10; refine (awake_walk _).mono ?_; rintro e w1 ⟨rfl, hg1⟩)
    | (go_at_call 11; refine (hsh _).mono ?_; rintro e w1' ⟨rfl, rfl⟩))
  have hB1 : BoundsAt w w1.heap.size (w1.alloc (.cells #[.int .i64 0, .int .i64 0, .int .u8 0, .int .u8 0, .slice none 0 0, .string ⟨#[]⟩, .slice none 0 0, .slice none 0 0, .slice none 0 0, .int .i64 0, .bool false, .bool false, .bool false] 35)) :=
    ⟨PS.init, _, PP.newL w1, .inl rfl, init_ok, fun k hk => by have := hg1.size; simp at hk; omega, hg1.alloc _⟩
  go_loopw [6] (fun i wr => ∃ j : Nat, j ≤ N ∧ i = .int .i64 j ∧ BoundsAt w w1.heap.size wr) (fun i _ => N - (intOf i).toNat)
  case atStart => exact ⟨0, Nat.zero_le _, rfl, hB1⟩
  case round =>
    clear hB1
    obtain ⟨j, hj, rfl, hB⟩ := hrel
    by_cases hlt : j < N
    · obtain ⟨s, lv, hP, hI, hok, hO, hG⟩ := hB
      obtain ⟨g1, g2⟩ := good_feed hI l HL.out
      have hok2 := feedM_ok hok l HL.out
      have hlen : (feedM s l).2.length ≤ 400 := by have := feedM_len s l; have := HN.out; omega
      have hf := feed_walk (cap := cap) HL.out (by omega) (HR.out.gr hG) (fun h0 => HR.out.outL h0 hO) hok hP
      obtain ⟨r, hrd⟩ : ∃ r, r = feedM s l := ⟨_, rfl⟩
      rw [← hrd] at g1 g2 hok2 hlen hf
      have G1 := Lib.hid g1; have G2 := Lib.hid g2
      have hjn : (j : Int) < (N : Int) := by omega
      clear g1 g2 hrd hI hok hP
      go_wp2_with (go_at_call 13; refine hf.mono ?_; rintro e w2 ⟨ov, qs, lv', rfl, hs2, hP2, hT2⟩; obtain ⟨ta, tc, rfl⟩ := row_form hT2.row)
      obtain ⟨hG2, hO2⟩ := hs2.own hG hO
      have hA := hT2.at_
      clear hs2 hT2 hf
      go_loopw [32] (fun i w3 => ∃ m : Nat, m ≤ r.2.length ∧ i = .int .i64 m ∧ Gr w2 w3) (fun i _ => r.2.length - (intOf i).toNat)
      case atStart => exact ⟨0, Nat.zero_le _, rfl, .refl _⟩
      case round =>
        obtain ⟨m, hm, rfl, hg3⟩ := hrel
        obtain ⟨w3, rfl⟩ : ∃ w3 : World, w3 = wr := ⟨_, rfl⟩
        by_cases hltm : m < r.2.length
        · obtain ⟨gt, pt, t, q, hv1, ht, hq, hr1⟩ := tok_range (hA.gr hg3).row hA.len hltm
          injection hv1 with e1 e2 e3
          subst e1
          have hrt := (hA.gr hg3).toks m t q ht hq
          have hcan := G2.out t (List.mem_of_getElem? ht)
          obtain ⟨qp, qd⟩ := q
          obtain ⟨pa, pc, hxp⟩ := hrt.params.form
          obtain ⟨da, dc, hxd⟩ := hrt.data.form
          simp only at hxp hxd
          subst hxp; subst hxd
          have z0 := hr1 0 _ rfl
          have z1 := hr1 1 _ rfl
          have z2 := hr1 2 _ rfl
          have z3 := hr1 3 _ rfl
          have z4 := hr1 4 _ rfl
          have z5 := hr1 5 _ rfl
          simp only [Nat.add_zero] at z0
          have hgl := lt_of_cell z0
          have hmn : (m : Int) < (r.2.length : Int) := by omega
          have hgT := (Gr.refl w3).alloc (.cells (tcells t (.slice pa t.params.length pc, .slice da t.data.length dc)).toArray 31)
          have hck := check_can hcan (hrt.gr hgT)
          clear hr1 hrt hcan ht hq e2 e3
          go_wp2_with (go_at_call 21; refine hck.mono ?_; rintro e w4 ⟨rfl, hg4⟩)
          go_roundw
          case rel => exact ⟨m + 1, by omega, by go_num, hg3.trans (hgT.trans hg4)⟩
          case measure => simp [intOf]; omega
        · have hmn : ¬ (m : Int) < (r.2.length : Int) := by omega
          clear hA
          go_wp2_with fail
          go_roundw
          case rel => exact ⟨j + 1, by omega, by go_num, ⟨r.1, lv', hP2.gr hg3, G1.out, hok2, hO2, hG2.trans hg3⟩⟩
          case measure => simp [intOf]; omega
    · have hjn : ¬ (j : Int) < (N : Int) := by omega
      obtain ⟨s, lv, _, _, _, _, hG⟩ := hB
      go_wp2_with fail
      go_ret
      exact ⟨rfl, hG⟩
theorem bounds_walk {w : World} {a : Option Addr} {len cap : Nat} {n : Int} {zs : List Int} (h : IsRow .u8 w a len cap zs) :
    Calls Try.prog 9 #[.slice a len cap, .int .i64 n] w fun e w' => e = .returned (.bool true) ∧ Gr w w' := by
  by_cases ho : len = 0 ∨ n < 1 ∨ 60 < n
  · exact bounds_out h ho
  · obtain ⟨N, rfl⟩ : ∃ N : Nat, n = N := ⟨n.toNat, by omega⟩
    exact bounds_in h (by omega) (by omega) (by omega)
end Go.Proofs.Ytgbmjlajheeciaa
