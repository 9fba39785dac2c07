/-
  The parser fed with long streams.
-/
import Derived.Test.YtgbmjlajheeciaaDoorZTkTs
namespace Go.Proofs.YtgbmjlajheeciaaDoor
set_option linter.unusedSimpArgs false
set_option linter.unusedVariables false
set_option linter.unusedSectionVars false
open Go.RowKit
variable [Bs]
set_option linter.unusedVariables false
set_option maxRecDepth 100000 in
set_option maxHeartbeats 1000000 in
theorem feed_walk3 {lv : List Nat} {w : World} {p : Nat} {s : PS} {a : Option Addr} {n cap : Nat} {l : List Int} (hl : ∀ c ∈ l, 0 ≤ c ∧ c < 256) (hn : n ≤ 100000) (hts : (feedM s l).2.length ≤ 80000) (hr : Rd w a n (bcells l)) (ho : 0 < n → Out lv a) (hok : s.ok) (h : PP lv w p s) :
    Calls Tryd.prog 23 #[.pointer (some ⟨p, 0, none⟩), .slice a n cap] w (FeedTo2 lv w p (feedM s l)) := by
  have hln : l.length = n := by simpa [bcells] using hr.1
  go_enter Tryd.func23, Tryd.ntmps23
  go_wp2_with fail
  go_loopw [10] (fun i wr => ∃ k : Nat, k ≤ n ∧ i = .int .i64 k ∧ Fed (w.heap.size :: lv) (w.alloc (.cells #[.slice none 0 0] 52)) p w.heap.size s l k wr) (fun i _ => n - (intOf i).toNat)
  case atStart => exact ⟨0, Nat.zero_le _, rfl, w.heap.size :: lv, .refl _ _, by simpa [feedM, plainL, runM] using h.start⟩
  case round =>
    obtain ⟨k, hk, rfl, hF⟩ := hrel
    by_cases hlt : k < n
    · obtain ⟨lv', hs, hS⟩ := hF
      have hg0 : Gr w (w.alloc (.cells #[.slice none 0 0] 52)) := (Gr.refl w).alloc _
      have hu : Upd (w.heap.size :: lv) w wr := (Upd.of_gr hg0).trans1 hs.upd
      have hr' : Rd wr a n (bcells l) := hr.upd hu (fun x hx hm => by
        obtain ⟨b, off, c, ha, _, _, hb⟩ := hr.byte hlt
        rw [ha] at hx; injection hx with hx; subst hx
        rcases List.mem_cons.1 hm with e | hm
        · simp at e; omega
        · exact ho (by omega) _ ha hm)
      obtain ⟨b, off, c, rfl, hc, hcell, hb⟩ := hr'.byte hlt
      have hrange := hl c (List.mem_of_getElem? hc)
      obtain ⟨c0, c1⟩ := hrange
      have hok' : (feedM s (l.take k)).1.ok := feedM_ok hok _ fun x hx => hl x (List.mem_of_mem_take hx)
      have hlen : (feedM s (l.take k)).2.length ≤ 80000 := by
        have h1 : (feedM s (l.take k ++ l.drop k)).2.length ≤ 80000 := by rw [List.take_append_drop]; exact hts
        rw [feed_append] at h1
        simp only [List.length_append] at h1
        omega
      have hkn : (k : Int) < (n : Int) := by omega
      clear hu hr hr' ho hl hln hk
      by_cases h0 : c = 0 ∨ c = 127
      · have hF' : Fed (w.heap.size :: lv) (w.alloc (.cells #[.slice none 0 0] 52)) p w.heap.size s l (k + 1) wr := Fed.skip ⟨lv', hs, hS⟩ hc h0
        rcases h0 with rfl | rfl
        all_goals
          go_wp2_with fail
          go_roundw
          case rel => exact ⟨k + 1, by omega, by go_num, hF'⟩
          case measure => simp [intOf]; omega
      · have q0 : (c == 0) = false := by simp; omega
        have q127 : (c == 127) = false := by simp; omega
        by_cases h1 : 128 ≤ c ∧ c < 160
        · have h1a := decide_eq_true h1.1
          have h1b := decide_eq_true h1.2
          have ht1 := take_SS 27 (by omega) hok' (by omega) hS
          have hok2 := ok_take hok' 27 (by omega)
          have hlen2 := takeM_len (feedM s (l.take k)).1 27
          obtain ⟨h1c, h1d⟩ := h1
          have H0 := Lib.hid h0; clear h0
          go_wp2_with (first
            | (refine (take_SS (c - 64) (by omega) hok2 (by simp; omega) hS1).mono ?_; rintro e w2 ⟨rfl, hS2⟩)
            | (go_at_call 44; refine ht1.mono ?_; rintro e w1 ⟨rfl, lv1, hs1, hS1⟩))
          go_roundw
          case rel => exact ⟨k + 1, by omega, by go_num, .two hs hc ⟨h1c, h1d⟩ hs1 hS2⟩
          case measure => simp [intOf]; omega
        · have q1 : (decide (128 ≤ c) && decide (c < 160)) = false := by simp; omega
          have ht1 := take_SS c (by omega) hok' (by omega) hS
          have H0 := Lib.hid h0; clear h0
          have H1 := Lib.hid h1; clear h1
          cases h128 : decide (128 ≤ c)
          · go_wp2_with (first
              | (go_at_call 44; refine ht1.mono ?_; rintro e w1 ⟨rfl, hS1⟩))
            go_roundw
            case rel => exact ⟨k + 1, by omega, by go_num, .one hs hc H0.out H1.out hS1⟩
            case measure => simp [intOf]; omega
          · have h160 : decide (c < 160) = false := by simpa [h128] using q1
            go_wp2_with (first
              | (go_at_call 44; refine ht1.mono ?_; rintro e w1 ⟨rfl, hS1⟩))
            go_roundw
            case rel => exact ⟨k + 1, by omega, by go_num, .one hs hc H0.out H1.out hS1⟩
            case measure => simp [intOf]; omega
    · obtain ⟨ov, qs, lv', hcell, h1, h2, h3, h4⟩ := hF.fin (by omega)
      have H4 := Lib.hid h4; clear h4
      have hkn : ¬ (k : Int) < (n : Int) := by omega
      go_wp2_with fail
      go_ret
      exact ⟨ov, qs, lv', rfl, h1, h2, h3, H4.out⟩
end Go.Proofs.YtgbmjlajheeciaaDoor
