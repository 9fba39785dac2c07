/-
  The law that what means nothing may stand anywhere, walked.
-/
import Derived.Test.YtgbmjlajheeciaaPdF
namespace Go.Proofs.Ytgbmjlajheeciaa
set_option linter.unusedSimpArgs false
set_option linter.unusedVariables false
open Go.RowKit

/-- What has been written with bytes between that mean nothing. -/
structure MoreAt (l : List Int) (k : Nat) (ms : List Int) : Prop where
  plain : plainL ms = plainL (l.take k)
  len : ms.length ≤ 3 * k
  range : ∀ c ∈ ms, 0 ≤ c ∧ c < 256
theorem MoreAt.step {l : List Int} {k : Nat} {ms : List Int} {c : Int} (h : MoreAt l k ms) (hc : l[k]? = some c) (hr : 0 ≤ c ∧ c < 256) : MoreAt l (k + 1) (ms ++ [c]) := by
  refine ⟨?_, by have := h.len; simp; omega, ?_⟩
  · rw [plainL_take hc]
    simp only [plainL, List.flatMap_append] at *
    rw [show List.flatMap plainOf ms = List.flatMap plainOf (l.take k) from h.plain]
    simp
  · intro x hx
    rcases List.mem_append.1 hx with hx | hx
    · exact h.range x hx
    · simp at hx; subst hx; exact hr
theorem MoreAt.step2 {l : List Int} {k : Nat} {ms : List Int} {c : Int} (h : MoreAt l k ms) (hc : l[k]? = some c) (hr : 0 ≤ c ∧ c < 256) : MoreAt l (k + 1) (ms ++ [0, 127] ++ [c]) := by
  refine ⟨?_, by have := h.len; simp; omega, ?_⟩
  · rw [plainL_take hc]
    simp only [plainL, List.flatMap_append] at *
    rw [show List.flatMap plainOf ms = List.flatMap plainOf (l.take k) from h.plain]
    simp [plainOf]
  · intro x hx
    rcases List.mem_append.1 hx with hx | hx
    · rcases List.mem_append.1 hx with hx | hx
      · exact h.range x hx
      · simp at hx; omega
    · simp at hx; subst hx; exact hr
theorem MoreAt.fin {l : List Int} {k : Nat} {ms : List Int} (h : MoreAt l k ms) (hk : l.length ≤ k) (s : PS) : feedM s ms = feedM s l := by
  have := h.plain
  rw [List.take_of_length_le hk] at this
  simp [feedM, this]

set_option maxRecDepth 100000 in
set_option maxHeartbeats 4000000 in
theorem nothing_walk {w : World} {a : Option Addr} {len cap : Nat} {zs : List Int} {a2 : Option Addr} {m cap2 : Nat} {zs2 : List Int} (h : IsRow .u8 w a len cap zs) (h2 : IsRow .i64 w a2 m cap2 zs2) :
    Calls Try.prog 5 #[.slice a len cap, .slice a2 m cap2] w fun e w' => e = .returned (.bool true) ∧ Gr w w' := by
  obtain ⟨n, hnd⟩ : ∃ n, n = min len 1000 := ⟨_, rfl⟩
  obtain ⟨hr, hln, hl, hlc, hcm, hpl⟩ := h.rd (n := n) (by omega)
  have hn1 : n ≤ 1000 := by omega
  have hsh := fun w' : World => short_walk a len cap 1000 w' (by omega) hlc
  rw [← hnd] at hsh
  obtain ⟨l, hld⟩ : ∃ l, l = zs.take n := ⟨_, rfl⟩
  rw [← hld] at hr hln hl
  have hok := feedM_ok init_ok _ hl
  have hpar : ∀ t ∈ (feedM PS.init l).2, t.params.length ≤ 100000 := fun t ht => by have := feedM_params init_ok _ hl t ht; omega
  have htl : (feedM PS.init l).2.length ≤ 40000 := by have := feedM_len PS.init l; omega
  obtain ⟨r, hrd⟩ : ∃ r, r = feedM PS.init l := ⟨_, rfl⟩
  rw [← hrd] at hok hpar htl
  have hidx : 0 < m → ∃ b off, a2 = some ⟨b, off, none⟩ ∧ b < w.heap.size ∧ ∀ k : Nat, ∃ x, w.cell? ⟨b, off + k % m, none⟩ = some (.int .i64 x) := by
    intro hm
    have hmc : m ≤ cap2 := by rcases h2 with ⟨_, e1, e2, _⟩ | ⟨_, _, e1, _⟩ <;> omega
    obtain ⟨b, off, ha, h1, h3, h4, h5, hc, hw⟩ := h2.plain (by omega)
    exact ⟨b, off, ha, h5, fun k => ⟨_, hc (k % m) (by have := Nat.mod_lt k hm; omega)⟩⟩
  have hmm : m ≤ 9223372036854775807 := by
    rcases h2 with ⟨_, e1, e2, _⟩ | ⟨_, _, e1, e2, _⟩
    · omega
    · unfold maxLen at e2; omega
  have HL := Lib.hid hl; have HPar := Lib.hid hpar; have HD := Lib.hid hrd; have HN := Lib.hid hln; have HR := Lib.hid hr; have HI := Lib.hid hidx
  clear hl hpar hld hln hcm h hnd hrd hr hpl hidx h2
  go_enter Try.func5, Try.ntmps5
  go_wp2_with (first
    | (go_at_call 10; refine (awake_walk _).mono ?_; rintro e w1 ⟨rfl, hg1⟩)
    | (go_at_call 11; refine (hsh _).mono ?_; rintro e w1' ⟨rfl, rfl⟩))
  go_loopw [5, 17] (fun v i wr => ∃ (k : Nat) (ms : List Int), k ≤ n ∧ i = .int .i64 k ∧ wr.ownsRow w1.heap.size 5 1 v ms.length (bcells ms) ∧ Gr w1 wr ∧ MoreAt l k ms) (fun _ i _ => n - (intOf i).toNat)
  case atStart => exact ⟨0, [], Nat.zero_le _, rfl, World.ownsRow_nil _ _ _ _, .refl _, ⟨by simp, by simp, by simp⟩⟩
  case round =>
    obtain ⟨k, ms, hk, rfl, hown, hgw, hM⟩ := hrel
    have hgww := hg1.trans hgw
    have hml := hM.len
    have HM := Lib.hid hM
    clear hM
    obtain ⟨ma, mc, rfl⟩ := row_form hown
    by_cases hlt : k < n
    · obtain ⟨b, off, c, rfl, hc, hcell, hb⟩ := (HR.out.gr hgww).byte hlt
      have hkn : (k : Int) < (n : Int) := by omega
      have hrange := HL.out c (List.mem_of_getElem? hc)
      have HC := Lib.hid hc
      clear hc
      have HRg := Lib.hid hrange
      clear hrange
      by_cases hm0 : m = 0
      · subst hm0
        go_wp2_with (at_builtin; refine wpList_push1 rfl _ _ _ rfl w1.heap.size 5 _ 1 Try.underlying22 uint8_info rfl (by omega) _ _ _ (.int .u8 c) (ownsRow_gr hown ((Gr.refl _).alloc _)) _ rfl rfl (cell_alloc1 _ _ _) rfl (by omega) (by have := hgw.size; simp; omega) ?_; intro g cp w2 hG hown2)
        go_roundw
        case rel => exact ⟨k + 1, ms ++ [c], by omega, by go_num, by simpa [bcells] using hown2, hG.gr (hgw.alloc _) fun k hk => ownsRow_base hown hk, HM.out.step HC.out HRg.out⟩
        case measure => simp [intOf]; omega
      · obtain ⟨b2, off2, rfl, hb2, hx⟩ := HI.out (by omega)
        obtain ⟨x, hx⟩ := hx k
        have hx2 := hgww.cellAt hx
        clear hx
        have hmlt := Nat.mod_lt k (show 0 < m by omega)
        have hm1 : (0 : Int) < (m : Int) := by omega
        have hm2 : (k : Int) % (m : Int) < (m : Int) := by omega
        have hm3 : 0 ≤ (k : Int) % (m : Int) := by omega
        by_cases hx0 : Int.tmod x 2 = 0
        all_goals
          go_wp2_with (first
            | (at_builtin; refine wpList_pushM rfl _ _ _ rfl w1.heap.size 5 _ 1 Try.underlying22 uint8_info rfl (by omega) _ _ _ [.int .u8 0, .int .u8 127] (ownsRow_gr hown ((Gr.refl _).alloc _)) _ 2 2 rfl rfl (heap_alloc_new _ _) rfl (by omega) (by intro u hu; simp at hu; rcases hu with rfl | rfl <;> rfl) (by omega) (by have := hgw.size; simp; omega) ?_; intro g cp w2 hG hown2; have hgw2 := hG.gr (hgw.alloc _) (fun k hk => ownsRow_base hown hk))
            | (at_builtin; refine wpList_push1 rfl _ _ _ rfl w1.heap.size 5 _ 1 Try.underlying22 uint8_info rfl (by omega) _ _ _ (.int .u8 c) (ownsRow_gr hown2 ((Gr.refl _).alloc _)) _ rfl rfl (cell_alloc1 _ _ _) rfl (by omega) (by have := hgw2.size; simp; omega) ?_; intro g3 cp3 w3 hG3 hown3; have hgw3 := hG3.gr (hgw2.alloc _) (fun k hk => ownsRow_base hown2 hk))
            | (at_builtin; refine wpList_push1 rfl _ _ _ rfl w1.heap.size 5 _ 1 Try.underlying22 uint8_info rfl (by omega) _ _ _ (.int .u8 c) (ownsRow_gr hown ((Gr.refl _).alloc _)) _ rfl rfl (cell_alloc1 _ _ _) rfl (by omega) (by have := hgw.size; simp; omega) ?_; intro g cp w2 hG hown2; have hgw2 := hG.gr (hgw.alloc _) (fun k hk => ownsRow_base hown hk)))
          go_roundw
          case rel => first
            | exact ⟨k + 1, ms ++ [0, 127] ++ [c], by omega, by go_num, by simpa [bcells] using hown3, hgw3, HM.out.step2 HC.out HRg.out⟩
            | exact ⟨k + 1, ms ++ [c], by omega, by go_num, by simpa [bcells] using hown2, hgw2, HM.out.step HC.out HRg.out⟩
          case measure => simp [intOf]; omega
    · have hkn : ¬ (k : Int) < (n : Int) := by omega
      have hf := HM.out.fin (by have := HN.out; omega) PS.init
      rw [← HD.out] at hf
      have HF := Lib.hid hf
      clear hf hlt
      go_wp2_with (first
        | (go_at_call 12; refine (rsplit_law (cap := cap) HL.out (by omega) (HR.out.gr hgww)).mono ?_; rw [← HD.out]; rintro e w3 ⟨ra, rc, rqs, bb, rfl, hR3, hgx3, hb3⟩; have HB3 := Lib.hid hb3; clear hb3; have hg3 := hgww.trans hgx3)
        | (go_at_call 13; refine (feed_walk (cap := mc) HM.out.range (by omega) ((HasRow.of_own hown).rd_.gr (hgx3.trans ((Gr.refl w3).alloc _))) (fun _ => own_out hown hgx3.size) init_ok (PP.new w3)).mono ?_; rw [HF.out]; rintro e w4 ⟨ov, qs, lv4, rfl, hs4, hP4, hT4⟩
           obtain ⟨hgx4, ho4⟩ := hs4.own ((Gr.refl w3).alloc _) (fun k hk => by simp at hk; omega)
           have hg4 := hg3.trans hgx4
           obtain ⟨ta, tc, rfl⟩ := row_form hT4.row)
        | (go_at_call 14; refine (are_walk hT4.at_ (hR3.gr hgx4) (by omega) HPar.out).mono ?_; rintro e w5 ⟨rfl, hgx5⟩; have hg5 := hg4.trans hgx5)
        | (go_at_call 15; refine (idle_walk (hP4.gr hgx5)).mono ?_; rw [HB3.out]; rintro e w5' ⟨rfl, rfl⟩))
      go_ret
      exact ⟨rfl, hg5⟩
end Go.Proofs.Ytgbmjlajheeciaa
