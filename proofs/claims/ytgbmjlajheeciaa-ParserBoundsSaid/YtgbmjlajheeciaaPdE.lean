/-
  The law that a stream's tokens are those that the document says, walked.
-/
import Derived.Test.YtgbmjlajheeciaaPdD
namespace Go.Proofs.Ytgbmjlajheeciaa
set_option linter.unusedSimpArgs false
set_option linter.unusedVariables false
open Go.RowKit

theorem uint8_info : (Try.prog.info? 5).map (fun i => (i.zero, i.size, i.bytes)) = some (some (.int .u8 0), 1, 1) := by kernel_rfl

set_option maxRecDepth 100000 in
set_option maxHeartbeats 2000000 in
theorem splits_walk {w : World} {a : Option Addr} {len cap : Nat} {zs : List Int} (h : IsRow .u8 w a len cap zs) :
    Calls Try.prog 3 #[.slice a len cap] w fun e w' => e = .returned (.bool true) ∧ Gr w w' := by
  obtain ⟨hr, hln, hl, hlc, hcm, hpl⟩ := h.rd (n := min len 20000) (by omega)
  have hn : min len 20000 ≤ 20000 := by omega
  obtain ⟨n, hnd⟩ : ∃ n, n = min len 20000 := ⟨_, rfl⟩
  have hsh := fun w' : World => short_walk a len cap 20000 w' (by omega) hlc
  rw [← hnd] at hr hln hl hn hsh hpl
  obtain ⟨l, hld⟩ : ∃ l, l = zs.take n := ⟨_, rfl⟩
  rw [← hld] at hr hln hl
  have hok := feedM_ok init_ok l hl
  have hpar : ∀ t ∈ (feedM PS.init l).2, t.params.length ≤ 100000 := fun t ht => by have := feedM_params init_ok l hl t ht; omega
  have htl : (feedM PS.init l).2.length ≤ 40000 := by have := feedM_len PS.init l; omega
  obtain ⟨r, hrd⟩ : ∃ r, r = feedM PS.init l := ⟨_, rfl⟩
  rw [← hrd] at hok hpar htl
  have HL := Lib.hid hl; have HPar := Lib.hid hpar; have HD := Lib.hid hrd; have HN := Lib.hid hln
  clear hl hpar hld hln hcm h hnd hrd
  clear hpl
  go_enter Try.func3, Try.ntmps3
  go_wp2_with (first
    | (go_at_call 10; refine (awake_walk _).mono ?_; rintro e w1 ⟨rfl, hg1⟩)
    | (go_at_call 11; refine (hsh _).mono ?_; rintro e w1' ⟨rfl, rfl⟩)
    | (at_builtin; refine wpList_copyRd rfl _ _ _ rfl 5 _ 1 Try.underlying22 uint8_info rfl (by omega) n cap a (bcells l) rfl rfl (hr.gr hg1) (bcells_one l) (by omega) ?_; intro va vc w2 hown2 hgx2; have hg2 := hg1.trans hgx2)
    | (go_at_call 12; refine (rsplit_law (cap := cap) HL.out (by omega) (hr.gr hg2)).mono ?_; rw [← HD.out]; rintro e w3 ⟨ra, rc, rqs, b, rfl, hR3, hgx3, hb3⟩; have HB3 := Lib.hid hb3; clear hb3; have hg3 := hg2.trans hgx3)
    | (go_at_call 13; refine (feed_walk (cap := vc) HL.out (by omega) ((HasRow.of_own hown2).rd_.gr (hgx3.trans ((Gr.refl w3).alloc _))) (fun _ => own_out hown2 hgx3.size) init_ok (PP.new w3)).mono ?_; rw [← HD.out]; rintro e w4 ⟨ov, qs, lv4, rfl, hs4, hP4, hT4⟩
       obtain ⟨hgx4, ho4⟩ := hs4.own ((Gr.refl w3).alloc _) (fun k hk => by simp at hk; omega)
       have hg4 := hg3.trans hgx4
       obtain ⟨ta, tc, rfl⟩ := row_form hT4.row)
    | (go_at_call 14; refine (are_walk hA6 (hR3.gr (hgx4.trans (hgx5.trans hgx6))) (by omega) HPar.out).mono ?_; rintro e w7 ⟨rfl, hgx7⟩)
    | (go_at_call 14; refine (are_walk hT4.at_ (hR3.gr hgx4) (by omega) HPar.out).mono ?_; rintro e w5 ⟨rfl, hgx5⟩; have hg5 := hg4.trans hgx5; have cv1 := conv_rd (cap := vc) ((HasRow.of_own hown2).rd_.gr (hgx3.trans (hgx4.trans hgx5))); have cv2 := conv_rd (cap := cap) (hr.gr hg5))
    | (go_at_call 15; refine (idle_walk (hP4.gr hgx5)).mono ?_; rw [HB3.out]; rintro e w5' ⟨rfl, rfl⟩)
    | (go_at_call 16; refine (psplit_walk (cap := vc) HL.out (by omega) ((HasRow.of_own hown2).rd_.gr (hgx3.trans (hgx4.trans hgx5)))).mono ?_; rw [← HD.out]; rintro e w6 ⟨ov6, qs6, rfl, hA6, hgx6⟩; obtain ⟨sa, sc, rfl⟩ := row_form hA6.row))
  go_ret
  exact ⟨rfl, hg5.trans (hgx6.trans hgx7)⟩
end Go.Proofs.Ytgbmjlajheeciaa
