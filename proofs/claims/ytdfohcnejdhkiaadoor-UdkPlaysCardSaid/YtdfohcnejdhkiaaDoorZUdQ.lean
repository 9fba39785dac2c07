/-
  Keys with texts: the law's Is, walked.
-/
import Derived.RegionTactic
import Derived.Test.YtdfohcnejdhkiaaDoorZOrd
import Derived.Test.YtdfohcnejdhkiaaDoorZUdP
namespace Go.Proofs.YtdfohcnejdhkiaaDoor
set_option linter.unusedSimpArgs false
set_option linter.unusedVariables false
open Go.RowKit
set_option linter.unusedVariables false

theorem ids_at {w : World} {B : Nat} {v : Value} {l : Ds} (h : w.ownsRow B 3 1 v l.length (ncs l)) {i : Nat} {p : Nat × List UInt8} (hp : l[i]? = some p) :
    ∃ g c, v = .slice (some ⟨g, 0, none⟩) l.length c ∧ w.cell? ⟨g, i, none⟩ = some (.int .i64 p.1) := by
  have hil := (List.getElem?_eq_some_iff.1 hp).1
  have h0 : (ncs l)[i]? = some (.int .i64 p.1) := by simp [ncs, hp]
  rcases h.2 with ⟨_, e⟩ | ⟨g, cap, cur, hv, _, hh, hn, _, hs, hk⟩
  · omega
  · refine ⟨g, cap, hv, cell_of_row hh _ _ ?_⟩
    rw [← hk, List.getElem?_take] at h0
    split at h0
    · simpa using h0
    · cases h0
theorem get_of_doc {L : Txs} (h : KInv L) {i : Nat} {p : Nat × List UInt8} (hp : (docL L)[i]? = some p) : getZ L (p.1 : Int) = p.2 ∧ p.2 ≠ [] ∧ p.1 ≤ 34 := by
  obtain ⟨h1, h2⟩ := docGo_some 17 L p (List.mem_of_getElem? hp)
  have h3 := docGo_ge 17 L p (List.mem_of_getElem? hp)
  have hk := h.2 _ _ h1 h2
  rw [show 17 + (p.1 - 17) = p.1 by omega] at hk
  refine ⟨?_, h2, by have := h.1; omega⟩
  unfold getZ
  rw [isZ_nat, if_pos hk, Int.toNat_natCast, h1]; rfl
set_option maxHeartbeats 2000000 in
set_option maxRecDepth 100000 in
theorem is_keys {p : Nat} {L : Txs} {lk : Bool} {v : Value} {w : World} (hK : KAt w p L lk) (hD : DL w v (docL L)) (hI : KInv L) (hu : usedL L ≤ 804) : Calls Tryd.prog 12 #[.pointer (some ⟨p, 0, none⟩), .agg #[v, .bool lk]] w fun e w' => e = .returned (.bool true) ∧ Gr w w' := by
  obtain ⟨a, c, rfl⟩ := hD.form
  have hb0 := heap_alloc_new w (.cells #[.slice a (docL L).length c, .bool lk] 35)
  have hg0 := (Gr.refl w).alloc (.cells #[.slice a (docL L).length c, .bool lk] 35)
  have hn18 : (docL L).length ≤ 18 := by have := docGo_len 17 L; have := hK.len; unfold docL; omega
  go_enter Tryd.func12, Tryd.ntmps12
  go_upto_region 1 with fail
  obtain ⟨w1, hw1⟩ : ∃ w1, w1 = w.alloc (.cells #[.slice a (docL L).length c, .bool lk] 35) := ⟨_, rfl⟩
  obtain ⟨b, hb⟩ : ∃ b, b = w.heap.size := ⟨_, rfl⟩
  rw [← hw1] at hb0 hg0 ⊢
  rw [← hb] at hb0 ⊢
  have hids := ids_any (hK.gr hg0)
  clear hw1 hb
  go_upto_region 2 with (go_at_call 25; (with_reducible refine hids.mono ?_); rintro e w2 ⟨iv, rfl, hrow, hg2⟩)
  have hgw := hg0.trans hg2
  obtain ⟨ia, ic, rfl⟩ := row_form hrow
  obtain ⟨U, hU⟩ : ∃ U, U = usedL L := ⟨_, rfl⟩
  have hKs := fun (W : World) (hg : Gr w2 W) => hK.gr (hgw.trans hg)
  have hDs := fun (W : World) (hg : Gr w2 W) => hD.gr (hgw.trans hg)
  have hsp := fun (W : World) (hg : Gr w2 W) => space_any (hKs W hg) (by omega)
  have hus := fun (W : World) (hg : Gr w2 W) => rused_any W (hDs W hg) (by omega) (by rw [used_doc]; omega)
  have hlk := fun (W : World) (hg : Gr w2 W) => locked_any (hKs W hg)
  rw [used_doc] at hus
  rw [← hU] at hsp hus
  have hU804 : U ≤ 804 := by omega
  have e1 : IntKind.i64.wrap (804 - (U : Int)) = 804 - (U : Int) := IntWalk.i64_in _ (by omega)
  have e2 : ¬ (804 - (U : Int)) < 0 := by omega
  have e3 : ¬ (804 : Int) < (U : Int) := by omega
  have e4 : decide (804 - (U : Int) < 0) = false := by simp; omega
  have e5 : decide ((804 : Int) < (U : Int)) = false := by simp; omega
  have hz := fun (W : World) (hg : Gr w2 W) => show W.cell? ⟨b, 0, none⟩ = some (.slice a (docL L).length c) ∧ W.cell? ⟨b, 1, none⟩ = some (.bool lk) from ⟨cell_of_row ((hg2.trans hg).blk hb0) 0 _ rfl, cell_of_row ((hg2.trans hg).blk hb0) 1 _ rfl⟩
  have hg22 := Gr.refl w2
  obtain ⟨z0, z1⟩ := hz w2 hg22
  have HROW := Lib.hid hrow
  have HK := Lib.hid hKs
  have HD := Lib.hid hDs
  have HI := Lib.hid hI
  clear hids hU hu hrow hK hD hKs hDs hI
  go_region_held3 (fun w9 => Gr w2 w9 ∧ w9.cell? ⟨b, 0, none⟩ = some (.slice a (docL L).length c) ∧ w9.cell? ⟨b, 1, none⟩ = some (.bool lk))
    ((refine (fun hg => ⟨hg, (hz _ hg).1, (hz _ hg).2⟩) ?_; (repeat (first | with_reducible exact Gr.refl _ | with_reducible assumption | with_reducible refine Gr.setCell ?_ (by simp; try omega) _ | with_reducible refine Gr.alloc ?_ _ | with_reducible refine Gr.drew ?_ | with_reducible refine Gr.drewN ?_ _ | with_reducible refine Gr.trans ?_ (by assumption)))))
    (first
      | (go_at_call 9; (with_reducible refine (hsp _ ?_).mono ?_); ((repeat (first | with_reducible exact Gr.refl _ | with_reducible assumption | with_reducible refine Gr.setCell ?_ (by simp; try omega) _ | with_reducible refine Gr.alloc ?_ _ | with_reducible refine Gr.drew ?_ | with_reducible refine Gr.drewN ?_ _ | with_reducible refine Gr.trans ?_ (by assumption)))); rintro e w3 ⟨rfl, hg3⟩)
      | (go_at_call 26; (with_reducible refine (hus _ ?_).mono ?_); ((repeat (first | with_reducible exact Gr.refl _ | with_reducible assumption | with_reducible refine Gr.setCell ?_ (by simp; try omega) _ | with_reducible refine Gr.alloc ?_ _ | with_reducible refine Gr.drew ?_ | with_reducible refine Gr.drewN ?_ _ | with_reducible refine Gr.trans ?_ (by assumption)))); rintro e w4 ⟨rfl, rfl⟩)
      | (go_at_call 20; (with_reducible refine (hlk _ ?_).mono ?_); ((repeat (first | with_reducible exact Gr.refl _ | with_reducible assumption | with_reducible refine Gr.setCell ?_ (by simp; try omega) _ | with_reducible refine Gr.alloc ?_ _ | with_reducible refine Gr.drew ?_ | with_reducible refine Gr.drewN ?_ _ | with_reducible refine Gr.trans ?_ (by assumption)))); rintro e w5 ⟨rfl, rfl⟩))
  have hgx : Gr w2 w3 := by (repeat (first | with_reducible exact Gr.refl _ | with_reducible assumption | with_reducible refine Gr.setCell ?_ (by simp; try omega) _ | with_reducible refine Gr.alloc ?_ _ | with_reducible refine Gr.drew ?_ | with_reducible refine Gr.drewN ?_ _ | with_reducible refine Gr.trans ?_ (by assumption)))
  obtain ⟨y0, y1⟩ := hz w3 hgx
  clear hsp hus hlk hg3 e1 e2 e3 e4 e5
  go_upto_region 5 with fail
  go_loopw [42] (fun iv wr => ∃ k : Nat, iv = .int .i64 (k : Int) ∧ k ≤ (docL L).length ∧ Gr w2 wr) (fun iv _ => (docL L).length - (intOf iv).toNat)
  case atStart => exact ⟨0, rfl, Nat.zero_le _, hgx⟩
  case round =>
    clear y0 y1 hgx
    obtain ⟨k, rfl, hk, hgr⟩ := hrel
    by_cases hlt : k < (docL L).length
    · have hki : (k : Int) < ((docL L).length : Int) := by omega
      have hk0 : (0 : Int) ≤ (k : Int) := by omega
      obtain ⟨q, hq⟩ : ∃ q, (docL L)[k]? = some q := ⟨_, List.getElem?_eq_getElem hlt⟩
      obtain ⟨g, rfl, x0, x1⟩ := (HD.out wr hgr).at_ hq
      obtain ⟨ig, ic', hiv, x2⟩ := ids_at (ownsRow_gr HROW.out hgr) hq
      injection hiv with hia _ hic
      subst hia
      subst hic
      obtain ⟨hgz, hqne, hq34⟩ := get_of_doc HI.out hq
      have he : (bsl q.2).toList.isEmpty = false := bslN hqne
      have hget := fun (W : World) (hg : Gr w2 W) => get_any (q.1 : Int) (HK.out W hg)
      rw [hgz, show (!q.2.isEmpty) = true by cases hh : q.2 with | nil => exact absurd hh hqne | cons _ _ => rfl] at hget
      obtain ⟨S, hS⟩ : ∃ S, S = bsl q.2 := ⟨_, rfl⟩
      rw [← hS] at he hget x1
      obtain ⟨K, hKd⟩ : ∃ K : Int, K = (q.1 : Int) := ⟨_, rfl⟩
      rw [← hKd] at hget x0 x2
      have x2s := fun (W : World) (hg : Gr wr W) => hg.cellAt x2
      clear hq hgz hqne hS hKd hq34
      go_upto_region 8 with (go_at_call 15; (with_reducible refine (hget _ (by (repeat (first | with_reducible exact Gr.refl _ | with_reducible assumption | with_reducible refine Gr.setCell ?_ (by simp; try omega) _ | with_reducible refine Gr.alloc ?_ _ | with_reducible refine Gr.drew ?_ | with_reducible refine Gr.drewN ?_ _ | with_reducible refine Gr.trans ?_ (by assumption))))).mono ?_); rintro e w7 ⟨rfl, rfl⟩)
      have HGW := Lib.hid hgw
      have hb8 := heap_alloc_new wr (.cells #[.int .i64 K, .string S] 61)
      have hg8 := (Gr.refl wr).alloc (.cells #[.int .i64 K, .string S] 61)
      obtain ⟨w8, hw8⟩ : ∃ w8, w8 = wr.alloc (.cells #[.int .i64 K, .string S] 61) := ⟨_, rfl⟩
      obtain ⟨b8, hb8d⟩ : ∃ b, b = wr.heap.size := ⟨_, rfl⟩
      rw [← hw8] at hb8 hg8 ⊢
      have x3 := hg8.cellAt (x2s wr (Gr.refl wr))
      rw [← hb8d] at hb8 ⊢
      have t0 : w8.cell? ⟨b8, 0, none⟩ = some (.int .i64 K) := cell_of_row hb8 0 _ rfl
      have t1 : w8.cell? ⟨b8, 1, none⟩ = some (.string S) := cell_of_row hb8 1 _ rfl
      clear hget x2s hgw hz hw8 hb8d hb8
      go_quiet (fail)
      go_wp2_with fail
      go_roundw
      case rel => exact ⟨k + 1, by go_num, by omega, by (repeat (first | with_reducible exact Gr.refl _ | with_reducible assumption | with_reducible refine Gr.setCell ?_ (by simp; try omega) _ | with_reducible refine Gr.alloc ?_ _ | with_reducible refine Gr.drew ?_ | with_reducible refine Gr.drewN ?_ _ | with_reducible refine Gr.trans ?_ (by assumption)))⟩
      case measure => simp [intOf]; omega
    · obtain rfl : k = (docL L).length := by omega
      have hki : ¬ ((docL L).length : Int) < ((docL L).length : Int) := by omega
      go_wp2_with fail
      go_ret
      exact ⟨rfl, hgw.trans hgr⟩
end Go.Proofs.YtdfohcnejdhkiaaDoor
