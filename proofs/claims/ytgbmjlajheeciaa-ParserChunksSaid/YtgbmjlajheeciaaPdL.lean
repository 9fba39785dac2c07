/-
  The law of chunks, walked.
-/
import Derived.Test.YtgbmjlajheeciaaPdK
import Derived.Deep.DeepCutAuto
namespace Go.Proofs.Ytgbmjlajheeciaa
set_option linter.unusedSimpArgs false
set_option linter.unusedVariables false
open Go.RowKit

theorem blkL (w : World) : w.alloc (.cells (pcells PS.init (.slice none 0 0) (.slice none 0 0) (.slice none 0 0)) 35) = w.alloc (.cells #[.int .i64 0, .int .i64 0, .int .u8 0, .int .u8 0, .slice none 0 0, .string ⟨#[]⟩, .slice none 0 0, .slice none 0 0, .slice none 0 0, .int .i64 0, .bool false, .bool false, .bool false] 35) := rfl

set_option maxRecDepth 100000 in
set_option maxHeartbeats 4000000 in
theorem chunks_walk {w : World} {a : Option Addr} {len cap : Nat} {zs : List Int} {a2 : Option Addr} {m cap2 : Nat} {zs2 : List Int} (h : IsRow .u8 w a len cap zs) (h2 : IsRow .i64 w a2 m cap2 zs2) :
    Calls Try.prog 7 #[.slice a len cap, .slice a2 m cap2] w fun e w' => e = .returned (.bool true) ∧ Gr w w' := by
  obtain ⟨n, hnd⟩ : ∃ n, n = min len 3000 := ⟨_, rfl⟩
  obtain ⟨hr, hln, hl, hlc, hcm, hpl⟩ := h.rd (n := n) (by omega)
  have hn1 : n ≤ 3000 := by omega
  have hsh := fun w' : World => short_walk a len cap 3000 w' (by omega) hlc
  rw [← hnd] at hsh
  obtain ⟨l, hld⟩ : ∃ l, l = zs.take n := ⟨_, rfl⟩
  rw [← hld] at hr hln hl
  have hok := feedM_ok init_ok _ hl
  have hpar : ∀ t ∈ (feedM PS.init l).2, t.params.length ≤ 100000 := fun t ht => by have := feedM_params init_ok _ hl t ht; omega
  have htl : (feedM PS.init l).2.length ≤ 40000 := by have := feedM_len PS.init l; omega
  obtain ⟨r, hrd⟩ : ∃ r, r = feedM PS.init l := ⟨_, rfl⟩
  rw [← hrd] at hok hpar htl
  have hidx : 0 < m → ∃ b off, a2 = some ⟨b, off, none⟩ ∧ b < w.heap.size ∧ ∀ k : Nat, ∃ x, w.cell? ⟨b, off + k % m, none⟩ = some (.int .i64 x) := by
    intro hm
    have hmc : m ≤ cap2 := by rcases h2 with ⟨_, e1, e2, _⟩ | ⟨_, _, e1, _⟩ <;> omega
    obtain ⟨b, off, ha, h1, h3, h4, h5, hc, hw⟩ := h2.plain (by omega)
    exact ⟨b, off, ha, h5, fun k => ⟨_, hc (k % m) (by have := Nat.mod_lt k hm; omega)⟩⟩
  have hmm : m ≤ 9223372036854775807 := by
    rcases h2 with ⟨_, e1, e2, _⟩ | ⟨_, _, e1, e2, _⟩
    · omega
    · unfold maxLen at e2; omega
  have hnc : n ≤ cap := by omega
  have HL := Lib.hid hl; have HPar := Lib.hid hpar; have HD := Lib.hid hrd; have HN := Lib.hid hln; have HR := Lib.hid hr; have HI := Lib.hid hidx
  clear hl hpar hld hln hcm h hnd hrd hr hpl hidx h2
  go_enter Try.func7, Try.ntmps7
  go_wp2_with (first
    | (go_at_call 10; refine (awake_walk _).mono ?_; rintro e w1 ⟨rfl, hg1⟩)
    | (go_at_call 11; refine (hsh _).mono ?_; rintro e w1' ⟨rfl, rfl⟩)
    | (go_at_call 13; refine (feed_walk (cap := cap) HL.out (by omega) (HR.out.gr (hg1.trans (((Gr.refl w1).alloc _).alloc _))) (fun h0 => HR.out.out h0 hg1.size) init_ok ((PP.newL w1).gr ((Gr.refl _).alloc _))).mono ?_; rw [← HD.out]; rintro e w2 ⟨wv, qsw, lvp, rfl, hs2, hP2, hT2⟩))
  have hgr2 := hs2.own (hg1.trans (((Gr.refl w1).alloc _).alloc _)) (fun k hk => by have := hg1.size; simp at hk; omega)
  obtain ⟨wa, wc, rfl⟩ := row_form hT2.row
  have hw12 := hg1.size
  have hq2 : w1.heap.size + 1 < w2.heap.size := by have := hs2.upd.size; simp at this; omega
  have hqb := (hs2.upd.block (w1.heap.size + 1) (by simp) (by simp)).trans (heap_new2 w1 _ _)
  have hC : ChunkAt w w2 w1.heap.size (w1.heap.size + 1) l r (trimL w2 lvp) (.slice wa r.2.length wc) qsw w2 0 (.slice none 0 0) [] [w1.heap.size + 1] := {
    gr := hgr2.1
    ws := hgr2.1.size
    siz := Nat.le_refl _
    pp := hP2.trimL
    pl := trimL_lvl _ _
    pq := ⟨_, _, _, hqb, World.ownsRow_nil _ _ _ _, World.ownsRow_nil _ _ _ _, World.ownsRow_nil _ _ _ _, by simp, by simp [Value.ownBlock], by simp [Value.ownBlock], by simp [Value.ownBlock], by simp [Value.ownBlock]⟩
    toks := ⟨World.ownsRow_nil _ _ _ _, rfl, by simp [feedM, plainL, runM], by simp [Value.ownBlock]⟩
    lvl := fun k hk => by simp at hk; omega
    own := fun k hk => by simp at hk; omega
    dis := fun k hk hm => by
      simp at hm
      rcases hs2.new k (trimL_sub hk) with h | h
      · simp at h; omega
      · simp at h; omega
    whole := hT2.parser hqb
    wlt := fun k hk => ownsRow_blk hT2.row hk
    gge := by simp [Value.ownBlock] }
  clear hs2 hP2 hT2 hgr2 hqb
  go_loopw [8, 9, 10] (fun gv at_ i wr => ∃ (k j : Nat) (gq : List (Value × Value)) (lvq : List Nat), k ≤ n ∧ at_ = .int .i64 k ∧ i = .int .i64 j ∧ j ≤ 201 ∧ (200 < j → k = n) ∧ ChunkAt w w2 w1.heap.size (w1.heap.size + 1) l r (trimL w2 lvp) (.slice wa r.2.length wc) qsw wr k gv gq lvq) (fun _ _ i _ => 202 - (intOf i).toNat)
  case atStart => exact ⟨0, 0, [], _, Nat.zero_le _, rfl, rfl, by omega, by omega, hC⟩
  case round =>
    clear hC
    obtain ⟨k, j, gq, lvq, hk, rfl, rfl, hj, hjn, hC⟩ := hrel
    by_cases hlt : k < n
    · have hkn : (k : Int) < (n : Int) := by omega
      have hj2 : j ≤ 200 := by omega
      have HJ := Lib.hid hjn
      clear hjn hj
      go_upto_if 27 with fail
      go_cut [11] (fun v wx => wr = wx ∧ ∃ c : Int, v = .int .i64 c ∧ 0 ≤ c ∧ c ≤ n)
      case first =>
        by_cases hm0 : m = 0
        · subst hm0
          go_wp2_with fail
          go_meet
          exact ⟨rfl, 1, rfl, by omega, by omega⟩
        · obtain ⟨b2, off2, rfl, hb2, hx⟩ := HI.out (by omega)
          obtain ⟨x, hx⟩ := hx j
          have hx2 := hC.gr.cellAt hx
          clear hx
          have hmlt := Nat.mod_lt j (show 0 < m by omega)
          have hm1 : (0 : Int) < (m : Int) := by omega
          have hm2 : (j : Int) % (m : Int) < (m : Int) := by omega
          have hm3 : 0 ≤ (j : Int) % (m : Int) := by omega
          go_wp2_with fail
          all_goals
            go_meet
            exact ⟨rfl, _, rfl, by omega, by omega⟩
      case rest =>
        obtain ⟨rfl, c, rfl, c0, c1⟩ := hcut
        go_upto_if 40 with fail
        go_cut [11] (fun v wx => wr = wx ∧ ∃ c : Int, v = .int .i64 c ∧ 0 ≤ c ∧ c ≤ n ∧ (200 ≤ j → c = n))
        case first =>
          by_cases hj3 : (200 : Int) ≤ (j : Int)
          · go_wp2_with fail
            go_meet
            exact ⟨rfl, n, rfl, by omega, by omega, fun _ => rfl⟩
          · go_wp2_with fail
            go_meet
            exact ⟨rfl, c, rfl, c0, c1, fun h => by omega⟩
        case rest =>
          clear c0 c1
          obtain ⟨rfl, c, rfl, c0, c1, c2⟩ := hcut
          have HC2 := Lib.hid c2
          clear c2
          go_upto_region 16 with fail
          go_cut [12] (fun v wx => wr = wx ∧ ∃ nx : Nat, v = .int .i64 nx ∧ k ≤ nx ∧ nx ≤ n ∧ (200 ≤ j → nx = n))
          case first =>
            by_cases hs : (k : Int) + c ≤ (n : Int)
            · obtain ⟨d, rfl⟩ : ∃ d : Nat, c = d := ⟨c.toNat, by omega⟩
              go_wp2_with fail
              all_goals
                go_meet
                exact ⟨rfl, k + d, by go_num, by omega, by omega, fun h => by have := HC2.out h; omega⟩
            · go_wp2_with fail
              all_goals
                go_meet
                exact ⟨rfl, n, rfl, by omega, by omega, fun _ => rfl⟩
          case rest =>
            obtain ⟨rfl, nx, rfl, hk1, hk2, hk3⟩ := hcut
            have HK := Lib.hid hk3
            clear hk3 HC2
            obtain ⟨a', hrun, hcutR⟩ := cut_mid (P := Try.prog) bytes_elem bytes_size a n cap k nx hk1 hk2 hnc
            have hrw := hcutR w _ HR.out
            rw [bcells_cut] at hrw
            have hlr : ∀ c ∈ (l.drop k).take (nx - k), 0 ≤ c ∧ c < 256 := fun c hc => HL.out c (List.mem_of_mem_drop (List.mem_of_mem_take hc))
            have hokk := feedM_ok init_ok (l.take k) fun c hc => HL.out c (List.mem_of_mem_take hc)
            have hf := feed_walk (cap := cap - k) hlr (by omega) (hrw.gr hC.gr) (fun h0 => hrw.outL h0 hC.own) hokk hC.pq
            have hn3 := feedM_len (feedM PS.init (l.take k)).1 ((l.drop k).take (nx - k))
            have hn4 := feedM_len PS.init (l.take k)
            have hl4 : (l.take k).length ≤ 3000 := by rw [List.length_take]; omega
            have hl5 : ((l.drop k).take (nx - k)).length ≤ 3000 := by rw [List.length_take]; omega
            have HC := Lib.hid hC
            have HR1 := Lib.hid hC.toks.row
            obtain ⟨ga, gc, rfl⟩ := row_form hC.toks.row
            clear hC hcutR hrw hlr hokk
            obtain ⟨s2, hs2⟩ : ∃ s2, s2 = feedM (feedM PS.init (l.take k)).1 ((l.drop k).take (nx - k)) := ⟨_, rfl⟩
            obtain ⟨s1, hs1⟩ : ∃ s1, s1 = feedM PS.init (l.take k) := ⟨_, rfl⟩
            rw [← hs2] at hf hn3
            rw [← hs1] at hn4 HR1 ⊢
            have HS1 := Lib.hid hs1; have HS2 := Lib.hid hs2
            clear hs1 hs2
            obtain ⟨d, hd⟩ : ∃ d, d = nx - k := ⟨_, rfl⟩
            rw [← hd] at hf hrun hn3 hl5
            have HDd := Lib.hid hd
            clear hd
            go_wp2_with (first
              | (go_at_call 13; refine hf.mono ?_; rintro e w3 ⟨ov, qs2, lv', rfl, hs3, hP3, hT3⟩; obtain ⟨oa, oc, rfl⟩ := row_form hT3.row; have hr3 := (HC.out.toks.stp hs3).row; rw [← HS1.out] at hr3)
              | (at_builtin; refine wpList_appRow rfl _ _ _ rfl 31 _ 6 80 0 0 Try.underlying36 token_info rfl (by omega) (by omega) _ _ _ _ _ _ rfl rfl hr3 hT3.row hT3.at_.one (by omega) (Nat.zero_le _) ?_; intro V w4 hown hgrow hV; obtain ⟨va, vc, rfl⟩ := row_form hown))
            have hfin : ChunkAt w w2 w1.heap.size (w1.heap.size + 1) l r (trimL w2 lvp) (.slice wa r.2.length wc) qsw w4 nx (.slice va (s1.2.length + s2.2.length) vc) (gq ++ qs2) (trimL w3 lv') := by
              have e1 := HS1.out; have e2 := HS2.out
              subst e1; subst e2
              exact HC.out.step hk1 hs3 hP3 hT3 hgrow hown hV
            go_roundw
            case rel => exact ⟨nx, j + 1, _, _, hk2, rfl, by go_num, by omega, fun h => HK.out (by omega), hfin⟩
            case measure => simp [intOf]; omega
    · have hkn : ¬ (k : Int) < (n : Int) := by omega
      have hkl : l.length ≤ k := by have := HN.out; omega
      have htk : l.take k = l := List.take_of_length_le hkl
      have HC := Lib.hid hC
      obtain ⟨ga, gc, rfl⟩ := row_form hC.toks.row
      have hpq := hC.pq
      have htq := hC.toks
      rw [htk, ← HD.out] at hpq htq
      rw [htk, ← HD.out]
      have hf := feed_walk (a := none) (n := 0) (cap := 0) (l := []) (by simp) (by omega) ⟨by simp [bcells], .inl rfl⟩ (fun h0 => absurd h0 (by omega)) hok hpq
      rw [show feedM r.1 [] = (r.1, []) by simp [feedM, plainL, runM]] at hf
      have HTQ := Lib.hid htq
      clear hC htq hpq htk hkl hlt
      go_wp2_with (first
        | (go_at_call 13; refine hf.mono ?_; rintro e w3 ⟨ov, qs2, lv', rfl, hs3, hP3, hT3⟩; have hG := HTQ.out.stp hs3; have hW := HC.out.whole.stp hs3; have hPp := HC.out.pp.far hs3 HC.out.dis; obtain ⟨hg3, ho3⟩ := hs3.own HC.out.gr HC.out.own)
        | (go_at_call 18; refine (all_walk hW.at_ (by omega)).mono ?_; rintro e w4 ⟨v4, rfl, hA4, hg4⟩; obtain ⟨aa, ac, rfl⟩ := row_form hA4.row; have hg4' := hg3.trans hg4)
        | (go_at_call 14; refine (are_walk (hG.at_.gr hg4) hA4 (by omega) HPar.out).mono ?_; rintro e w5 ⟨rfl, hg5⟩; have hg5' := hg4'.trans hg5; have h35 := hg4.trans hg5)
        | (go_at_call 17; ((with_reducible refine (same_true hok (hP3.gr (h35.trans hg6)) (hPp.gr (h35.trans hg6))).mono ?_); rintro e w7 ⟨rfl, hg7⟩; have h37 := (h35.trans hg6).trans hg7; have hg7' := hg6'.trans hg7))
        | (go_at_call 17; ((with_reducible refine (same_true hok (hPp.gr h35) (hP3.gr h35)).mono ?_); rintro e w6 ⟨rfl, hg6⟩; have hg6' := hg5'.trans hg6))
        | (go_at_call 15; ((with_reducible refine (idle_walk (hPp.gr h37)).mono ?_); rintro e w8 ⟨rfl, rfl⟩))
        | (go_at_call 15; ((with_reducible refine (idle_walk (hP3.gr h37)).mono ?_); rintro e w8 ⟨rfl, rfl⟩)))
      go_ret
      exact ⟨rfl, hg7'⟩
end Go.Proofs.Ytgbmjlajheeciaa
