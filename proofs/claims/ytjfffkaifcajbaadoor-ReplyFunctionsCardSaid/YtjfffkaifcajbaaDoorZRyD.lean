/-
  reply.function, walked.
-/
import Derived.Test.YtjfffkaifcajbaaDoorZRyC
namespace Go.Proofs.YtjfffkaifcajbaaDoor
set_option linter.unusedSimpArgs false
set_option linter.unusedVariables false
open Go.RowKit
set_option linter.unusedVariables false

theorem markB_at {L : List Int} {x : Int} (h : L[0]? = some x) : markB L = (decide (60 ≤ x) && (decide (x ≤ 63) && decide (1 < L.length))) := by
  rcases L with _ | ⟨y, _ | ⟨z, r⟩⟩
  · cases h
  · simp [markB]
  · simp at h; subst h
    by_cases h1 : 60 ≤ y <;> by_cases h2 : y ≤ 63 <;> simp [markB, h1, h2]
theorem markR_no {L : List Int} (h : markB L = false) : markR L = 0 ∧ restR L = L := by unfold markR restR; simp [h]
theorem markR_yes {L : List Int} {x : Int} (h : markB L = true) (hx : L[0]? = some x) : markR L = x ∧ restR L = L.drop 1 := by
  unfold markR restR
  rw [if_pos h, if_pos h]
  rcases L with _ | ⟨y, r⟩
  · cases hx
  · simp at hx; subst hx; exact ⟨rfl, rfl⟩
set_option maxRecDepth 100000 in
set_option maxHeartbeats 4000000 in
theorem fun_walk {w : World} {k : Int} {s : ByteArray} {a : Option Addr} {n c : Nat} {ps : List Int} (h : HasRow w 3 (.slice a n c) n (icells ps)) (hb : n * 8 ≤ 140737488355328) (hs : s.size ≤ 1000) :
    Calls Tryd.prog 40 #[.int .i64 k, .string s, .slice a n c] w (FunTo w k (nums s) ps) := by
  have hlen : ps.length = n := by simpa [icells] using h.1
  have hcp := fun (W : World) (hg : Gr w W) => copy_walk (k := 0) (c := 0) (m := 0) (s := ⟨#[]⟩) (a2 := none) (n2 := 0) (c2 := 0) (d := []) (h.gr hg) (HasRow.nil W 5) hb (by omega)
  have hw0 := (Gr.refl w).alloc (.cells #[.int .i64 0, .int .u8 0, .int .u8 0, .slice none 0 0, .string ⟨#[]⟩, .slice none 0 0] 50)
  have HN := Lib.hid hlen
  have hfl := fldT
  clear hlen h
  go_enter Tryd.func40, Tryd.ntmps40
  go_upto_region 2 with (go_at_call 50; (with_reducible refine (hcp _ hw0).mono ?_); rintro e w1 ⟨va, ca, vb, cb, rfl, hO, hO2, hg1⟩)
  have hF : FBox w w1.heap.size k 0 0 (.slice va n ca) ⟨#[]⟩ (w1.alloc (.cells #[.int .i64 k, .int .u8 0, .int .u8 0, .slice va n ca, .string ⟨#[]⟩, .slice none 0 0] 50)) :=
    ⟨heap_alloc_new w1 _, (Gr.refl w1).alloc _ |>.blk (hg1.blk (heap_alloc_new w _)), (hw0.trans hg1).alloc _, by have := hg1.lt1 w.heap.size (by simp); exact this⟩
  have hR : FRow w n (.slice va n ca) ps (w1.alloc (.cells #[.int .i64 k, .int .u8 0, .int .u8 0, .slice va n ca, .string ⟨#[]⟩, .slice none 0 0] 50)) := by
    have := ownsRow_gr hO ((Gr.refl w1).alloc (.cells #[.int .i64 k, .int .u8 0, .int .u8 0, .slice va n ca, .string ⟨#[]⟩, .slice none 0 0] 50))
    unfold FRow
    simpa using this
  clear hfl hcp hw0 hO hO2
  obtain ⟨wA, hwA⟩ : ∃ wA, wA = w1.alloc (.cells #[.int .i64 k, .int .u8 0, .int .u8 0, .slice va n ca, .string ⟨#[]⟩, .slice none 0 0] 50) := ⟨_, rfl⟩
  rw [← hwA] at hF hR ⊢
  clear hwA
  obtain ⟨T, hT⟩ : ∃ T, T = w1.heap.size := ⟨_, rfl⟩
  rw [← hT] at hF ⊢
  clear hT hg1 w1
  go_cut [33] (fun v wx => FMark w wA (nums s) v wx)
  case first =>
    by_cases h0 : s.size = 0
    · obtain rfl : s = ⟨#[]⟩ := by
        have : nums s = [] := List.eq_nil_of_length_eq_zero (by rw [nums_len]; exact h0)
        rw [← nums_str s, this]; rfl
      clear h0
      go_wp2_with fail
      go_meet
      exact ⟨rfl, rfl⟩
    · have hs0 : 0 < s.size := by omega
      obtain ⟨q1, q2, q3⟩ := qstr (s := s) (fun e => h0 (by rw [e]; rfl))
      obtain ⟨x, hx, ex⟩ : ∃ x : Int, (nums s)[0]? = some x ∧ ((s[0]'hs0).toNat : Int) = x := ⟨_, nums_at hs0, rfl⟩
      have hmk := markB_at hx
      rw [nums_len] at hmk
      have HM := Lib.hid hmk
      clear hmk hx h0
      by_cases h60 : 60 ≤ x
      · have p60 := decide_eq_true h60
        by_cases h63 : x ≤ 63
        · have p63 := decide_eq_true h63
          by_cases h1 : 1 < s.size
          · have h1' : (1 : Int) < (s.size : Int) := by omega
            have HD := Lib.hid (decide_eq_true h1)
            go_wp2_with fail
            go_meet
            exact ⟨by rw [HM.out, p60, p63, HD.out]; rfl, rfl⟩
          · have h1' : ¬ (1 : Int) < (s.size : Int) := by omega
            have HD := Lib.hid (decide_eq_false h1)
            go_wp2_with fail
            go_meet
            exact ⟨by rw [HM.out, p60, p63, HD.out]; rfl, rfl⟩
        · have p63 := decide_eq_false h63
          go_wp2_with fail
          go_meet
          exact ⟨by rw [HM.out, p60, p63]; rfl, rfl⟩
      · have p60 := decide_eq_false h60
        go_wp2_with fail
        go_meet
        exact ⟨by rw [HM.out, p60]; rfl, rfl⟩
  case rest =>
    obtain ⟨rfl, rfl⟩ := hcut
    go_upto_if 33 with fail
    go_cut [1] (fun v wx => FRest w T n k (.slice va n ca) ps (nums s) v wx)
    case first =>
      cases hmk : markB (nums s) with
      | false =>
        have hm2 := markR_no hmk
        have HM := Lib.hid hm2
        clear hm2 hmk
        go_wp2_with fail
        go_meet
        exact ⟨s, rfl, HM.out.2.symm, by rw [HM.out.1]; exact hF, hR⟩
      | true =>
        have hs0 : 0 < s.size := by
          rcases Nat.eq_zero_or_pos s.size with h0 | h0
          · have : nums s = [] := List.eq_nil_of_length_eq_zero (by rw [nums_len]; exact h0)
            rw [this] at hmk; cases hmk
          · exact h0
        obtain ⟨x, hx, ex⟩ : ∃ x : Int, (nums s)[0]? = some x ∧ ((s[0]'hs0).toNat : Int) = x := ⟨_, nums_at hs0, rfl⟩
        have hm2 := markR_yes hmk hx
        have HM := Lib.hid hm2
        have hnx : nums (s.extract 1 s.size) = restR (nums s) := by
          rw [nums_extract, hm2.2, List.take_of_length_le (by simp [nums_len])]
        have HX := Lib.hid hnx
        have hs1 : 1 ≤ s.size := hs0
        have hs2 : (1 : Int) ≤ (s.size : Int) := by omega
        have hs3 : (0 : Int) < (s.size : Int) := by omega
        clear hm2 hmk hx hnx
        obtain ⟨t0, t1, t2, t3, t4, t5, tf⟩ := cells6 hF.box
        go_wp2_with fail
        go_region_held3 (fun w9 => True) (exact trivial) (fail)
        all_goals go_wp2_with fail
        all_goals go_meet
        all_goals exact ⟨_, rfl, HX.out, by rw [HM.out.1]; exact hF.drew.set2 x, hR.drew.set hF.drew.box _⟩
    case rest =>
      obtain ⟨t, rfl, ht, hF, hR⟩ := hcut
      have hts : t.size ≤ 1000 := by
        have h1 : (restR (nums s)).length ≤ (nums s).length := by unfold restR; split <;> simp
        rw [← ht, nums_len, nums_len] at h1
        omega
      obtain ⟨M, hM⟩ : ∃ M, M = markR (nums s) := ⟨_, rfl⟩
      obtain ⟨R, hR0⟩ : ∃ R, R = restR (nums s) := ⟨_, rfl⟩
      have HMM := Lib.hid hM
      have HRR := Lib.hid hR0
      rw [← hM] at hF
      rw [← hR0] at ht
      have HT := Lib.hid ht
      clear hM hR0 ht
      obtain ⟨t0, t1, t2, t3, t4, t5, tf⟩ := cells6 hF.box
      go_upto_if 43 with fail
      go_cut [8] (fun _ wx => FBox w T k (R.getLastD 0) M (.slice va n ca) (strOf R.dropLast) wx ∧ FRow w n (.slice va n ca) ps wx)
      case first =>
        by_cases h0 : t.size = 0
        · have hR0 : R = [] := by rw [← HT.out]; exact List.eq_nil_of_length_eq_zero (by rw [nums_len]; exact h0)
          have HR0 := Lib.hid hR0
          clear hR0
          go_wp2_with fail
          go_meet
          exact ⟨by rw [HR0.out]; exact hF, hR⟩
        · obtain ⟨m, hm⟩ : ∃ m, t.size = m + 1 := ⟨t.size - 1, by omega⟩
          have hml : m < t.size := by omega
          obtain ⟨y, hy, ey⟩ : ∃ y : Int, (nums t)[m]? = some y ∧ ((t[m]'hml).toNat : Int) = y := ⟨_, nums_at hml, rfl⟩
          have h1 : R.getLastD 0 = y := by
            rw [HT.out] at hy
            have hl : R.length = m + 1 := by rw [← HT.out, nums_len]; exact hm
            rw [List.getLastD_eq_getLast?, List.getLast?_eq_getElem?, hl, Nat.add_sub_cancel, hy]; rfl
          have h2 : t.extract 0 m = strOf R.dropLast := by
            have hl : R.length = m + 1 := by rw [← HT.out, nums_len]; exact hm
            rw [strOf_ext, HT.out, List.dropLast_eq_take, hl]
            simp
          have H1 := Lib.hid h1
          have H2 := Lib.hid h2
          have hst := str_to t m (by omega)
          clear hy h1 h2 h0
          go_wp2_with fail
          go_region_held3 (fun w9 => True) (exact trivial) (fail)
          all_goals go_wp2_with fail
          all_goals go_meet
          all_goals
            rw [H1.out, ← H2.out]
            first
              | exact ⟨((hF.set4 (t.extract 0 m)).set1 y).drew, ((hR.set hF.box _).set (hF.set4 (t.extract 0 m)).box _).drew⟩
              | exact ⟨((hF.set1 y).set4 (t.extract 0 m)).drew, ((hR.set hF.box _).set (hF.set1 y).box _).drew⟩
      case rest =>
        obtain ⟨hF2, hR2⟩ := hcut
        clear t0 t1 t2 t3 t4 t5 tf hF hR
        obtain ⟨C, hC⟩ : ∃ C, C = R.getLastD 0 := ⟨_, rfl⟩
        obtain ⟨I, hI⟩ : ∃ I, I = strOf R.dropLast := ⟨_, rfl⟩
        rw [← hC, ← hI] at hF2
        have HC := Lib.hid hC
        have HI := Lib.hid hI
        clear hC hI
        obtain ⟨t0, t1, t2, t3, t4, t5, tf⟩ := cells6 hF2.box
        have hcl := clip_any
        obtain ⟨m, hm⟩ : ∃ m, m = min n 30 := ⟨_, rfl⟩
        have hm1 : m ≤ n := by omega
        have hm3 : m ≤ 30 := by omega
        have hmI : min (n : Int) 30 = (m : Int) := by omega
        have HM2 := Lib.hid hm
        clear hm
        obtain ⟨hsl, hIn, hblk⟩ := fun_cut hF2 hR2 hm1
        have hlm : (ps.take m).length = m := by rw [List.length_take, HN.out]; omega
        have HLM := Lib.hid hlm
        clear hR2 hF2 hlm
        obtain ⟨l, hl⟩ : ∃ l, l = ps.take m := ⟨_, rfl⟩
        rw [← hl] at hIn HLM
        have HL := Lib.hid hl
        clear hl
        go_wp2_with fail
        go_loopw [63, 9, 10] (fun iv _ _ wr => ∃ j : Nat, iv = .int .i64 (j : Int) ∧ j ≤ m ∧ FIn w T m k C M I (.slice va m ca) l j wr) (fun iv _ _ _ => m - (intOf iv).toNat)
        case atStart => exact ⟨0, rfl, Nat.zero_le _, hIn⟩
        case round =>
          clear hIn t0 t1 t2 t3 t4 t5 tf
          obtain ⟨j, rfl, hj, hIn⟩ := hrel
          obtain ⟨t0, t1, t2, t3, t4, t5, tf⟩ := cells6 hIn.1.box
          by_cases hlt : j < m
          · obtain ⟨g, rfl⟩ := hblk (by omega)
            have hjl : j < l.length := by rw [HLM.out]; exact hlt
            have hx : l[j]? = some l[j] := List.getElem?_eq_getElem hjl
            obtain ⟨x, hxx⟩ : ∃ x, x = l[j] := ⟨_, rfl⟩
            rw [← hxx] at hx
            have hx2 : (icells ((l.take j).map clip16 ++ l.drop j))[j]? = some (.int .i64 x) := by
              have hlen : ((l.take j).map clip16).length = j := by simp; omega
              unfold icells
              rw [List.getElem?_map, List.getElem?_append_right (by omega), hlen, Nat.sub_self, List.getElem?_drop, Nat.add_zero, hx]
              rfl
            obtain ⟨hcell, hfro⟩ := own_cellAt hIn.2 hx2
            have hnext := hIn.next HLM.out hlt hx
            have hgT := hIn.ne
            have hne : ∀ (W : World) (u : Value), (W.setCell ⟨g, j, none⟩ u).cell? ⟨T, 3, none⟩ = W.cell? ⟨T, 3, none⟩ := fun W u => World.cell?_setCell_other W ⟨g, j, none⟩ ⟨T, 3, none⟩ u (fun e => hgT (congrArg Addr.block e))
            have hjI : (j : Int) < (m : Int) := by omega
            have hjB : (j : Int) < 9223372036854775807 := by omega
            have hcx : Hid (clipR x = clip16 x) := Lib.hid rfl
            clear hx hx2 hxx hjl hIn
            go_wp2_with fail
            go_region_held3 (fun w9 => w9.cell? ⟨T, 3, none⟩ = some (.slice (some ⟨g, 0, none⟩) m ca)) (first | go_keep | (simp [hne]; assumption)) ((go_at_call 36; (with_reducible refine (hcl _ _).mono ?_); rintro e w5 ⟨rfl, rfl⟩))
            all_goals go_wp2_with fail
            all_goals go_roundw
            case rel => exact ⟨j + 1, by go_num, by omega, hnext.drew⟩
            case measure => simp [intOf]; omega
          · obtain rfl : m = j := by omega
            obtain ⟨hF3, hR3⟩ := hIn
            have e3 : (l.take m).map clip16 ++ l.drop m = (ps.take 30).map clip16 := by
              have h1 : l.length = m := HLM.out
              rw [List.take_of_length_le (by omega), List.drop_of_length_le (by omega), List.append_nil, HL.out]
              rw [show ps.take m = ps.take 30 from by
                have := HM2.out; have := HN.out
                by_cases h : n ≤ 30
                · rw [List.take_of_length_le (by omega), List.take_of_length_le (by omega)]
                · congr 1; omega]
            have hmm : m = min ps.length 30 := by rw [HN.out]; exact HM2.out
            rw [e3] at hR3
            have ho := hF3.out
            have HMM3 := Lib.hid hmm
            obtain ⟨p0, p1, p2, p3, p4, p5, pf⟩ := cells6 ho
            clear hmm e3
            go_wp2_with fail
            have hp := put6 ho (.int .i64 k) (.int .u8 C) (.int .u8 M) (.slice va m ca) (.string I) (.slice none 0 0)
            obtain ⟨w6, hw6⟩ : ∃ w6, w6 = (((((wr.setCell ⟨w.heap.size, 0, none⟩ (.int .i64 k)).setCell ⟨w.heap.size, 1, none⟩ (.int .u8 C)).setCell ⟨w.heap.size, 2, none⟩ (.int .u8 M)).setCell ⟨w.heap.size, 3, none⟩ (.slice va m ca)).setCell ⟨w.heap.size, 4, none⟩ (.string I)).setCell ⟨w.heap.size, 5, none⟩ (.slice none 0 0) := ⟨_, rfl⟩
            rw [← hw6] at hp ⊢
            obtain ⟨hp1, hp2, hp3⟩ := hp
            clear hw6
            have hg6 := hp3 w (Nat.le_refl _) hF3.gr
            have e1 := World.ownsRow.mono (hp2 _ _ _ _ _ (by omega) hR3) (Nat.le_add_right w.heap.size 1)
            clear hp2 hp3 ho p0 p1 p2 p3 p4 p5 pf t0 t1 t2 t3 t4 t5 tf
            obtain ⟨t0, t1, t2, t3, t4, t5, tf⟩ := cells6 hp1
            refine bodyPost_ret (v := .agg #[.int .i64 k, .int .u8 C, .int .u8 M, .slice va m ca, .string I, .slice none 0 0]) (by simp [results, Tryd.results40, go_sem, Act.put, t0, t1, t2, t3, t4, t5]) (by simp [Act.put]) ?_
            rw [HC.out, HI.out, HRR.out, HMM.out]
            refine ⟨va, ca, ?_, ?_, hg6⟩
            · rw [← HMM3.out]
            · rw [← HMM3.out]; exact e1
end Go.Proofs.YtjfffkaifcajbaaDoor
