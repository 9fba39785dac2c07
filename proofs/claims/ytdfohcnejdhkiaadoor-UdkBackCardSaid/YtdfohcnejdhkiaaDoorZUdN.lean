/-
  Keys with texts: Define of the document, walked.
-/
import Derived.Test.YtdfohcnejdhkiaaDoorZUdM
import Derived.Test.YtdfohcnejdhkiaaDoorZUdH
namespace Go.Proofs.YtdfohcnejdhkiaaDoor
set_option linter.unusedSimpArgs false
set_option linter.unusedVariables false
open Go.RowKit
set_option linter.unusedVariables false

/-- What is left of the definitions at a place. -/
def RmAt (d : List UInt8) (bg k : Nat) (Rm : List (List UInt8)) : Prop :=
  (k ≤ d.length ∧ bg ≤ k ∧ Rm = sps 59 (d.drop bg) ∧ ∀ c ∈ (d.drop bg).take (k - bg), c ≠ 59) ∨ (k = d.length + 1 ∧ bg = k ∧ Rm = [])
theorem RmAt.start (d : List UInt8) : RmAt d 0 0 (sps 59 d) := .inl ⟨Nat.zero_le _, Nat.le_refl _, by simp, by simp⟩
theorem RmAt.skip {d : List UInt8} {bg k : Nat} {Rm : List (List UInt8)} {c : UInt8} (h : RmAt d bg k Rm) (hc : d[k]? = some c) (hn : c ≠ 59) : RmAt d bg (k + 1) Rm := by
  have hk := (List.getElem?_eq_some_iff.1 hc).1
  rcases h with ⟨h1, h2, h3, h4⟩ | ⟨h1, _, _⟩
  · refine .inl ⟨by omega, by omega, h3, fun x hx => ?_⟩
    rw [show k + 1 - bg = (k - bg) + 1 by omega, List.take_add_one, List.mem_append] at hx
    rcases hx with hx | hx
    · exact h4 x hx
    · rw [List.getElem?_drop, show bg + (k - bg) = k by omega, hc] at hx
      simp at hx
      rw [hx]; exact hn
  · omega
theorem RmAt.cut {d : List UInt8} {bg k : Nat} {Rm : List (List UInt8)} (h : RmAt d bg k Rm) (hk : k ≤ d.length) (hc : k = d.length ∨ d[k]? = some 59) :
    ∃ Rm', Rm = (d.drop bg).take (k - bg) :: Rm' ∧ RmAt d (k + 1) (k + 1) Rm' ∧ bg ≤ k := by
  rcases h with ⟨h1, h2, h3, h4⟩ | ⟨h1, _, _⟩
  · rcases hc with hc | hc
    · refine ⟨[], ?_, .inr ⟨by omega, rfl, rfl⟩, h2⟩
      have e : (d.drop bg).take (k - bg) = d.drop bg := List.take_of_length_le (by simp; omega)
      rw [e] at h4 ⊢
      rw [h3, sps_none h4]
    · obtain ⟨hlt, hx⟩ := List.getElem?_eq_some_iff.1 hc
      refine ⟨sps 59 (d.drop (k + 1)), ?_, .inl ⟨by omega, Nat.le_refl _, rfl, by simp⟩, h2⟩
      have e : d.drop bg = (d.drop bg).take (k - bg) ++ 59 :: d.drop (k + 1) := by
        conv => lhs; rw [← List.take_append_drop (k - bg) (d.drop bg), List.drop_drop, show bg + (k - bg) = k by omega]
        rw [← hx, List.getElem_cons_drop]
      rw [h3]
      conv => lhs; rw [e]
      rw [sps_cut h4]
  · omega
theorem DL.upd {w w' : World} {v : Value} {l : Ds} {b T : Nat} {c : Array Value} (h : DL w v l) (hu : Upd [b] w w') (hb : w.heap[b]? = some (.cells c T (0, 0))) (hT : T ≠ 61) : DL w' v l := by
  refine ownsRow_same h fun k hk => hu.block k (ownsRow_blk h hk) fun hm => ?_
  rw [List.mem_singleton] at hm
  subst hm
  rcases h.2 with ⟨h2, _⟩ | ⟨g, cap, cur, hv, _, hh, _⟩
  · rw [h2] at hk; cases hk
  · rw [hv] at hk
    injection hk with hk
    simp only at hk
    subst hk
    rw [hh] at hb
    injection hb with hb
    injection hb with _ hb _
    exact hT hb.symm
theorem rkeys_size : (Tryd.prog.info? 35).map (·.size) = some 2 := by kernel_rfl
/-- What Define of the document leaves. -/
def RDef (w : World) (r : Txs × Bool × Int) (e : Ending) (w' : World) : Prop := ∃ v', e = .returned (.tuple #[.agg #[v', .bool r.2.1], .int .i64 r.2.2]) ∧ DL w' v' (docL r.1) ∧ Gr w w'
/-- While definitions are read. -/
structure RSt (w wr : World) (b4 b8 : Nat) (v0 cv : Value) (lk : Bool) (Lc : Txs) : Prop where
  gr : Gr w wr
  k4 : wr.heap[b4]? = some (.cells #[v0, .bool lk] 35 (0, 0))
  k8 : wr.heap[b8]? = some (.cells #[.slice none 0 0, .bool false] 35 (0, 0))
  dl : DL wr cv (docL Lc)
  len : Lc.length = 18
  nw : w.heap.size ≤ b8
theorem RSt.step {w wr wx : World} {b4 b8 : Nat} {v0 cv cv' : Value} {lk : Bool} {Lc Lc' : Txs} (h : RSt w wr b4 b8 v0 cv lk Lc) (hg : Gr wr wx) (hd : DL wx cv' (docL Lc')) (hl : Lc'.length = 18) : RSt w wx b4 b8 v0 cv' lk Lc' :=
  ⟨h.gr.trans hg, hg.blk h.k4, hg.blk h.k8, hd, hl, h.nw⟩
set_option maxRecDepth 100000 in
set_option maxHeartbeats 2000000 in
theorem rdefine_any {v : Value} {L : Txs} {lk : Bool} (clear lock : Bool) (d : List UInt8) (w : World) (h : DL w v (docL L)) (hL : L.length = 18) (hd : d.length ≤ 100000) (hu : usedL L ≤ 1000000) :
    Calls Tryd.prog 24 #[.agg #[v, .bool lk], .bool clear, .bool lock, .string (bsl d)] w (RDef w (dfnR L lk clear lock d)) := by
  obtain ⟨r, hr⟩ : ∃ r, r = dfnR L lk clear lock d := ⟨_, rfl⟩
  rw [← hr]
  obtain ⟨L0, hL0⟩ : ∃ L0, L0 = (if clear = true then List.replicate 18 [] else L) := ⟨_, rfl⟩
  have hr2 : r = (match withR L0 (sps 59 d) with | none => (L, lk, 3) | some L1 => if 804 < usedL L1 then (L, lk, 5) else if lk = true then (L, lk, 6) else (L1, lock, 0)) := by rw [hr, hL0]; rfl
  have HR := Lib.hid hr2
  clear hr2
  have hL0l : L0.length = 18 := by
    rw [hL0]
    split
    · simp
    · exact hL
  have hu0 : usedL L0 ≤ 1000000 := by
    rw [hL0]; split
    · show usedL noL ≤ _; rw [used_none]; omega
    · exact hu
  have HL0 := Lib.hid hL0
  have hg0 := fun (x : Nat) (h : x < (bsl d).size) => bsl_get (l := d) h
  have hsz := bsl_size d
  have hex := fun (x y : Nat) => bsl_extract d x y
  obtain ⟨t, ht⟩ : ∃ t, t = bsl d := ⟨_, rfl⟩
  rw [← ht] at hex hsz ⊢
  have hg1 : ∀ (x : Nat) (h : x < t.size) (h' : x < d.length), t[x]'h = d[x]'h' := by subst ht; exact fun x h _ => hg0 x h
  have HG := Lib.hid hg1
  have HEX := Lib.hid hex
  have hszb : t.size ≤ 100000 := by omega
  have HSZ := Lib.hid hsz
  have HH := Lib.hid h
  obtain ⟨a, c, hv⟩ := h.form
  clear hg1 hex hsz ht hg0 h hr hL0
  subst hv
  obtain ⟨v0, hv0⟩ : ∃ v0, v0 = Value.slice a (docL L).length c := ⟨_, rfl⟩
  have HV0 := Lib.hid hv0
  rw [← hv0] at HH
  rw [← hv0]
  clear hv0
  have hb8 := heap_alloc_new (w.alloc (.cells #[v0, .bool lk] 35)) (.cells #[.slice none 0 0, .bool false] 35)
  have hb4 := ((Gr.refl (w.alloc (.cells #[v0, .bool lk] 35))).alloc (.cells #[.slice none 0 0, .bool false] 35)).blk (heap_alloc_new w (.cells #[v0, .bool lk] 35))
  have hgw : Gr w ((w.alloc (.cells #[v0, .bool lk] 35)).alloc (.cells #[.slice none 0 0, .bool false] 35)) := ((Gr.refl w).alloc _).alloc _
  have hs1 : (w.alloc (.cells #[v0, .bool lk] 35)).heap.size = w.heap.size + 1 := by simp
  rw [hs1] at hb8
  go_enter Tryd.func24, Tryd.ntmps24
  go_upto_region 2 with fail
  obtain ⟨w2, hw2⟩ : ∃ w2, w2 = ((w.alloc (.cells #[v0, .bool lk] 35)).alloc (.cells #[.slice none 0 0, .bool false] 35)) := ⟨_, rfl⟩
  rw [← hw2] at hb8 hb4 hgw ⊢
  obtain ⟨b4, hb4d⟩ : ∃ b, b = w.heap.size := ⟨_, rfl⟩
  obtain ⟨b8, hb8d⟩ : ∃ b, b = w.heap.size + 1 := ⟨_, rfl⟩
  rw [← hb8d] at hb8 ⊢
  rw [← hb4d] at hb4 ⊢
  have hnw : w.heap.size ≤ b8 := by omega
  have z0 : w2.cell? ⟨b4, 0, none⟩ = some v0 := cell_of_row hb4 0 _ rfl
  have z1 : w2.cell? ⟨b4, 1, none⟩ = some (.bool lk) := cell_of_row hb4 1 _ rfl
  have HNW := Lib.hid hnw
  clear hw2 hb4d hb8d hs1 hnw
  have hcl : ∃ cv, (if clear = true then Value.slice none 0 0 else v0) = cv ∧ RSt w w2 b4 b8 v0 cv lk L0 := by
    refine ⟨_, rfl, hgw, hb4, hb8, ?_, hL0l, HNW.out⟩
    rw [HL0.out]
    cases clear
    · exact HH.out.gr hgw
    · exact DL.nil _
  obtain ⟨cv, hcv, hS⟩ := hcl
  have HS := Lib.hid hS
  clear hS hb4 hb8
  have hoc : (#[v0, .bool lk] : Array Value).all (·.oneCell') = true := by rw [HV0.out]; simp [Value.oneCell']
  have HOC := Lib.hid hoc
  clear hoc
  rcases clear with _ | _
  · have hcv' : cv = v0 := by rw [← hcv]; rfl
    rw [hcv'] at HS
    clear hcv hcv' cv
    go_upto_region 6 with fail
    go_loopw [10, 11, 12] (fun cw bv iv wr => ∃ (k bg : Nat) (Lc : Txs) (Rm : List (List UInt8)), iv = .int .i64 (k : Int) ∧ bv = .int .i64 (bg : Int) ∧ k ≤ d.length + 1 ∧ Hid (withR L0 (sps 59 d) = withR Lc Rm) ∧ Hid (RmAt d bg k Rm) ∧ RSt w wr b4 b8 v0 cw lk Lc) (fun _ _ iv _ => d.length + 1 - (intOf iv).toNat)
    case atStart => exact ⟨0, 0, L0, sps 59 d, rfl, rfl, Nat.zero_le _, Lib.hid rfl, Lib.hid (RmAt.start d), HS.out⟩
    case round =>
      obtain ⟨k, bg, Lc, Rm, rfl, rfl, hkl, HW, HRm, hS⟩ := hrel
      obtain ⟨ca, cc, rfl⟩ := hS.dl.form
      have hk0 : (0 : Int) ≤ (k : Int) := by omega
      have z0 : wr.cell? ⟨b4, 0, none⟩ = some v0 := cell_of_row hS.k4 0 _ rfl
      have z1 : wr.cell? ⟨b4, 1, none⟩ = some (.bool lk) := cell_of_row hS.k4 1 _ rfl
      by_cases hlt : k ≤ d.length
      · have hki : (k : Int) ≤ (t.size : Int) := by have := HSZ.out; omega
        by_cases hcont : ∃ cch, d[k]? = some cch ∧ cch ≠ 59
        · obtain ⟨cch, hch, hne⟩ := hcont
          obtain ⟨hkd, hx⟩ := List.getElem?_eq_some_iff.1 hch
          have hkt : k < t.size := by have := HSZ.out; omega
          have hkti : (k : Int) < (t.size : Int) := by omega
          have hg := HG.out k hkt hkd
          rw [hx] at hg
          have hcint : ¬ (cch.toNat : Int) = 59 := by
            intro e
            exact hne (UInt8.toNat_inj.1 (by have h59 : (59 : UInt8).toNat = 59 := rfl; omega))
          have hcint2 : ((cch.toNat : Int) != 59) = true := by simpa using hcint
          have HRm2 := Lib.hid (HRm.out.skip hch hne)
          have HS2 := Lib.hid hS
          clear hch hx hne hS HRm
          go_wp2_with fail
          go_roundw
          case rel => exact ⟨k + 1, bg, Lc, Rm, by go_num, rfl, by omega, HW, HRm2, HS2.out⟩
          case measure => simp [intOf]; omega
        · have hend : k = d.length ∨ d[k]? = some 59 := by
            rcases Nat.lt_or_ge k d.length with hk1 | hk1
            · right
              rcases hx : d[k]? with _ | x
              · rw [List.getElem?_eq_getElem hk1] at hx; cases hx
              · by_cases h59 : x = 59
                · rw [h59]
                · exact absurd ⟨x, hx, h59⟩ hcont
            · left; omega
          obtain ⟨Rm', hRm', hnext, hbk⟩ := HRm.out.cut hlt hend
          have hq : (t.extract bg k) = bsl ((d.drop bg).take (k - bg)) := HEX.out bg k
          have hql : ((d.drop bg).take (k - bg)).length ≤ 1000000 := by simp; omega
          have hone := fun (W : World) (hg : Gr wr W) => rone_any ((d.drop bg).take (k - bg)) W (hS.dl.gr hg) (by have := docGo_len 17 Lc; have := hS.len; unfold docL; omega) hql
          rw [← hq] at hone
          simp only [one_doc hS.len] at hone
          have hwr : withR Lc Rm = match defR Lc ((d.drop bg).take (k - bg)) with | none => none | some L' => withR L' Rm' := by rw [hRm']; rfl
          have hbki : (bg : Int) ≤ (k : Int) := by omega
          have hbg0 : (0 : Int) ≤ (bg : Int) := by omega
          have HNX := Lib.hid hnext
          obtain ⟨od, hod⟩ : ∃ od, od = defR Lc ((d.drop bg).take (k - bg)) := ⟨_, rfl⟩
          rw [← hod] at hone hwr
          have HOD := Lib.hid hod
          have HWR := Lib.hid hwr
          have hktl : k ≤ t.size := by have := HSZ.out; omega
          have hcnd : k = t.size ∨ (k < t.size ∧ ∃ hk : k < t.size, ((t[k]'hk).toNat : Int) = 59) := by
            rcases hend with h1 | h1
            · left; have := HSZ.out; omega
            · right
              obtain ⟨hkd, hx⟩ := List.getElem?_eq_some_iff.1 h1
              have hkt : k < t.size := by have := HSZ.out; omega
              refine ⟨hkt, hkt, ?_⟩
              rw [HG.out k hkt hkd, hx]; rfl
          have HS2 := Lib.hid hS
          have e5 : IntKind.i64.wrap ((k : Int) + 1) = (k : Int) + 1 := IntWalk.i64_in _ (by omega)
          clear hcont hend hRm' hnext hod hwr HRm hql hq
          have hgr0 := HS2.out.gr
          rcases od with _ | L'
          · have hres : withR L0 (sps 59 d) = none := by rw [HW.out, HWR.out]
            have hr3 : r = (L, lk, 3) := by rw [HR.out, hres]
            subst hr3
            have hb8 := hS.k8
            have hb4 := hS.k4
            clear hres hS
            rcases hcnd with hke | ⟨hkt, hkt', hch⟩
            · have hki2 : ¬ (k : Int) < (t.size : Int) := by omega
              clear hke
              go_wp2_with (first
                | (go_at_call 35; (with_reducible refine (hone _ (Gr.refl _)).mono ?_); rintro e w5 ⟨v5, rfl, _, _, hg5⟩; have hb8 := hg5.blk hb8; have hb4 := hg5.blk hb4; have z0 : w5.cell? ⟨b4, 0, none⟩ = some v0 := cell_of_row hb4 0 _ rfl; have z1 : w5.cell? ⟨b4, 1, none⟩ = some (.bool lk) := cell_of_row hb4 1 _ rfl)
                | (refine wpList_store_part rfl _ _ _ rfl b8 0 #[v0, .bool lk] rfl rfl _ _ #[v0, .bool lk] hb8 (by simp) rkeys_size HOC.out rfl ?_; intro w6 hb6 hu6 hs6))
              refine bodyPost_ret (results_cell_tmp rfl _ w6 b8 35 #[v0, .bool lk] (0, 0) _ rfl hb6 Tryd.underlying35 rfl rkeys_size) rfl ?_
              exact ⟨v0, rfl, HH.out.gr ((HS2.out.gr.trans hg5).upd hu6 (by simpa using HNW.out)), (HS2.out.gr.trans hg5).upd hu6 (by simpa using HNW.out)⟩
            · have hki2 : (k : Int) < (t.size : Int) := by omega
              go_wp2_with (first
                | (go_at_call 35; (with_reducible refine (hone _ (Gr.refl _)).mono ?_); rintro e w5 ⟨v5, rfl, _, _, hg5⟩; have hb8 := hg5.blk hb8; have hb4 := hg5.blk hb4; have z0 : w5.cell? ⟨b4, 0, none⟩ = some v0 := cell_of_row hb4 0 _ rfl; have z1 : w5.cell? ⟨b4, 1, none⟩ = some (.bool lk) := cell_of_row hb4 1 _ rfl)
                | (refine wpList_store_part rfl _ _ _ rfl b8 0 #[v0, .bool lk] rfl rfl _ _ #[v0, .bool lk] hb8 (by simp) rkeys_size HOC.out rfl ?_; intro w6 hb6 hu6 hs6))
              refine bodyPost_ret (results_cell_tmp rfl _ w6 b8 35 #[v0, .bool lk] (0, 0) _ rfl hb6 Tryd.underlying35 rfl rkeys_size) rfl ?_
              exact ⟨v0, rfl, HH.out.gr ((HS2.out.gr.trans hg5).upd hu6 (by simpa using HNW.out)), (HS2.out.gr.trans hg5).upd hu6 (by simpa using HNW.out)⟩
          · have hW2 : withR L0 (sps 59 d) = withR L' Rm' := by rw [HW.out, HWR.out]
            have HW2 := Lib.hid hW2
            clear hW2 hS
            rcases hcnd with hke | ⟨hkt, hkt', hch⟩
            · have hki2 : ¬ (k : Int) < (t.size : Int) := by omega
              clear hke
              go_wp2_with (first
                | (go_at_call 35; (with_reducible refine (hone _ (Gr.refl _)).mono ?_); rintro e w5 ⟨v5, rfl, hd5, _, hg5⟩)
                | fail)
              go_roundw
              case rel => exact ⟨k + 1, k + 1, L', Rm', by go_num, by go_num, by omega, HW2, HNX, HS2.out.step hg5 (hd5 _ rfl) (by rw [defR_len HOD.out.symm]; exact HS2.out.len)⟩
              case measure => simp [intOf]; omega
            · have hki2 : (k : Int) < (t.size : Int) := by omega
              go_wp2_with (first
                | (go_at_call 35; (with_reducible refine (hone _ (Gr.refl _)).mono ?_); rintro e w5 ⟨v5, rfl, hd5, _, hg5⟩)
                | fail)
              go_roundw
              case rel => exact ⟨k + 1, k + 1, L', Rm', by go_num, by go_num, by omega, HW2, HNX, HS2.out.step hg5 (hd5 _ rfl) (by rw [defR_len HOD.out.symm]; exact HS2.out.len)⟩
              case measure => simp [intOf]; omega
      · have hk1 : k = d.length + 1 := by omega
        have hki : ¬ (k : Int) ≤ (t.size : Int) := by have := HSZ.out; omega
        have hRn : Rm = [] := by
          rcases HRm.out with ⟨h1, _⟩ | ⟨_, _, h1⟩
          · omega
          · exact h1
        have hres : withR L0 (sps 59 d) = some Lc := by rw [HW.out, hRn]; rfl
        have hub := withR_bound hres hd hu0
        have hused := fun (W : World) (hg : Gr wr W) => rused_any W (hS.dl.gr hg) (by have := docGo_len 17 Lc; have := hS.len; unfold docL; omega) (by rw [used_doc]; exact hub)
        rw [used_doc] at hused
        obtain ⟨U, hU⟩ : ∃ U, U = usedL Lc := ⟨_, rfl⟩
        rw [← hU] at hused
        have HU := Lib.hid hU
        have HRES := Lib.hid hres
        have hb8 := hS.k8
        have hb4 := hS.k4
        have HS2 := Lib.hid hS
        clear hS hU hres hRn HRm hub
        by_cases h804 : 804 < U
        · have hr5 : r = (L, lk, 5) := by
            rw [HR.out, HRES.out]
            rw [HU.out] at h804
            simp [h804]
          subst hr5
          have h804i : (804 : Int) < (U : Int) := by omega
          have H8 := Lib.hid h804
          clear h804
          go_wp2_with (first
            | (go_at_call 26; (with_reducible refine (hused _ (Gr.refl _)).mono ?_); rintro e w5 ⟨rfl, rfl⟩)
            | (refine wpList_store_part rfl _ _ _ rfl b8 0 #[v0, .bool lk] rfl rfl _ _ #[v0, .bool lk] hb8 (by simp) rkeys_size HOC.out rfl ?_; intro w6 hb6 hu6 hs6))
          refine bodyPost_ret (results_cell_tmp rfl _ w6 b8 35 #[v0, .bool lk] (0, 0) _ rfl hb6 Tryd.underlying35 rfl rkeys_size) rfl ?_
          exact ⟨v0, rfl, HH.out.gr (HS2.out.gr.upd hu6 (by simpa using HNW.out)), HS2.out.gr.upd hu6 (by simpa using HNW.out)⟩
        · have h804i : ¬ (804 : Int) < (U : Int) := by omega
          have H8 := Lib.hid h804
          clear h804
          rcases lk with _ | _
          · have hr0 : r = (Lc, lock, 0) := by
              rw [HR.out, HRES.out]
              have := H8.out
              rw [HU.out] at this
              simp [this]
            subst hr0
            go_wp2_with (first
              | (go_at_call 26; (with_reducible refine (hused _ (Gr.refl _)).mono ?_); rintro e w5 ⟨rfl, rfl⟩)
              | (refine wpList_store_part rfl _ _ _ rfl b8 0 #[.slice ca (docL Lc).length cc, .bool lock] rfl rfl _ _ #[.slice ca (docL Lc).length cc, .bool lock] hb8 (by simp) rkeys_size (by simp [Value.oneCell']) rfl ?_; intro w6 hb6 hu6 hs6))
            refine bodyPost_ret (results_cell_tmp rfl _ w6 b8 35 #[.slice ca (docL Lc).length cc, .bool lock] (0, 0) _ rfl hb6 Tryd.underlying35 rfl rkeys_size) rfl ?_
            exact ⟨_, rfl, HS2.out.dl.upd hu6 hb8 (by decide), HS2.out.gr.upd hu6 (by simpa using HNW.out)⟩
          · have hr6 : r = (L, true, 6) := by
              rw [HR.out, HRES.out]
              have := H8.out
              rw [HU.out] at this
              simp [this]
            subst hr6
            go_wp2_with (first
              | (go_at_call 26; (with_reducible refine (hused _ (Gr.refl _)).mono ?_); rintro e w5 ⟨rfl, rfl⟩)
              | (refine wpList_store_part rfl _ _ _ rfl b8 0 #[v0, .bool true] rfl rfl _ _ #[v0, .bool true] hb8 (by simp) rkeys_size HOC.out rfl ?_; intro w6 hb6 hu6 hs6))
            refine bodyPost_ret (results_cell_tmp rfl _ w6 b8 35 #[v0, .bool true] (0, 0) _ rfl hb6 Tryd.underlying35 rfl rkeys_size) rfl ?_
            exact ⟨v0, rfl, HH.out.gr (HS2.out.gr.upd hu6 (by simpa using HNW.out)), HS2.out.gr.upd hu6 (by simpa using HNW.out)⟩
  · have hcv' : cv = Value.slice none 0 0 := by rw [← hcv]; rfl
    rw [hcv'] at HS
    clear hcv hcv' cv
    go_upto_region 6 with fail
    go_loopw [10, 11, 12] (fun cw bv iv wr => ∃ (k bg : Nat) (Lc : Txs) (Rm : List (List UInt8)), iv = .int .i64 (k : Int) ∧ bv = .int .i64 (bg : Int) ∧ k ≤ d.length + 1 ∧ Hid (withR L0 (sps 59 d) = withR Lc Rm) ∧ Hid (RmAt d bg k Rm) ∧ RSt w wr b4 b8 v0 cw lk Lc) (fun _ _ iv _ => d.length + 1 - (intOf iv).toNat)
    case atStart => exact ⟨0, 0, L0, sps 59 d, rfl, rfl, Nat.zero_le _, Lib.hid rfl, Lib.hid (RmAt.start d), HS.out⟩
    case round =>
      obtain ⟨k, bg, Lc, Rm, rfl, rfl, hkl, HW, HRm, hS⟩ := hrel
      obtain ⟨ca, cc, rfl⟩ := hS.dl.form
      have hk0 : (0 : Int) ≤ (k : Int) := by omega
      have z0 : wr.cell? ⟨b4, 0, none⟩ = some v0 := cell_of_row hS.k4 0 _ rfl
      have z1 : wr.cell? ⟨b4, 1, none⟩ = some (.bool lk) := cell_of_row hS.k4 1 _ rfl
      by_cases hlt : k ≤ d.length
      · have hki : (k : Int) ≤ (t.size : Int) := by have := HSZ.out; omega
        by_cases hcont : ∃ cch, d[k]? = some cch ∧ cch ≠ 59
        · obtain ⟨cch, hch, hne⟩ := hcont
          obtain ⟨hkd, hx⟩ := List.getElem?_eq_some_iff.1 hch
          have hkt : k < t.size := by have := HSZ.out; omega
          have hkti : (k : Int) < (t.size : Int) := by omega
          have hg := HG.out k hkt hkd
          rw [hx] at hg
          have hcint : ¬ (cch.toNat : Int) = 59 := by
            intro e
            exact hne (UInt8.toNat_inj.1 (by have h59 : (59 : UInt8).toNat = 59 := rfl; omega))
          have hcint2 : ((cch.toNat : Int) != 59) = true := by simpa using hcint
          have HRm2 := Lib.hid (HRm.out.skip hch hne)
          have HS2 := Lib.hid hS
          clear hch hx hne hS HRm
          go_wp2_with fail
          go_roundw
          case rel => exact ⟨k + 1, bg, Lc, Rm, by go_num, rfl, by omega, HW, HRm2, HS2.out⟩
          case measure => simp [intOf]; omega
        · have hend : k = d.length ∨ d[k]? = some 59 := by
            rcases Nat.lt_or_ge k d.length with hk1 | hk1
            · right
              rcases hx : d[k]? with _ | x
              · rw [List.getElem?_eq_getElem hk1] at hx; cases hx
              · by_cases h59 : x = 59
                · rw [h59]
                · exact absurd ⟨x, hx, h59⟩ hcont
            · left; omega
          obtain ⟨Rm', hRm', hnext, hbk⟩ := HRm.out.cut hlt hend
          have hq : (t.extract bg k) = bsl ((d.drop bg).take (k - bg)) := HEX.out bg k
          have hql : ((d.drop bg).take (k - bg)).length ≤ 1000000 := by simp; omega
          have hone := fun (W : World) (hg : Gr wr W) => rone_any ((d.drop bg).take (k - bg)) W (hS.dl.gr hg) (by have := docGo_len 17 Lc; have := hS.len; unfold docL; omega) hql
          rw [← hq] at hone
          simp only [one_doc hS.len] at hone
          have hwr : withR Lc Rm = match defR Lc ((d.drop bg).take (k - bg)) with | none => none | some L' => withR L' Rm' := by rw [hRm']; rfl
          have hbki : (bg : Int) ≤ (k : Int) := by omega
          have hbg0 : (0 : Int) ≤ (bg : Int) := by omega
          have HNX := Lib.hid hnext
          obtain ⟨od, hod⟩ : ∃ od, od = defR Lc ((d.drop bg).take (k - bg)) := ⟨_, rfl⟩
          rw [← hod] at hone hwr
          have HOD := Lib.hid hod
          have HWR := Lib.hid hwr
          have hktl : k ≤ t.size := by have := HSZ.out; omega
          have hcnd : k = t.size ∨ (k < t.size ∧ ∃ hk : k < t.size, ((t[k]'hk).toNat : Int) = 59) := by
            rcases hend with h1 | h1
            · left; have := HSZ.out; omega
            · right
              obtain ⟨hkd, hx⟩ := List.getElem?_eq_some_iff.1 h1
              have hkt : k < t.size := by have := HSZ.out; omega
              refine ⟨hkt, hkt, ?_⟩
              rw [HG.out k hkt hkd, hx]; rfl
          have HS2 := Lib.hid hS
          have e5 : IntKind.i64.wrap ((k : Int) + 1) = (k : Int) + 1 := IntWalk.i64_in _ (by omega)
          clear hcont hend hRm' hnext hod hwr HRm hql hq
          have hgr0 := HS2.out.gr
          rcases od with _ | L'
          · have hres : withR L0 (sps 59 d) = none := by rw [HW.out, HWR.out]
            have hr3 : r = (L, lk, 3) := by rw [HR.out, hres]
            subst hr3
            have hb8 := hS.k8
            have hb4 := hS.k4
            clear hres hS
            rcases hcnd with hke | ⟨hkt, hkt', hch⟩
            · have hki2 : ¬ (k : Int) < (t.size : Int) := by omega
              clear hke
              go_wp2_with (first
                | (go_at_call 35; (with_reducible refine (hone _ (Gr.refl _)).mono ?_); rintro e w5 ⟨v5, rfl, _, _, hg5⟩; have hb8 := hg5.blk hb8; have hb4 := hg5.blk hb4; have z0 : w5.cell? ⟨b4, 0, none⟩ = some v0 := cell_of_row hb4 0 _ rfl; have z1 : w5.cell? ⟨b4, 1, none⟩ = some (.bool lk) := cell_of_row hb4 1 _ rfl)
                | (refine wpList_store_part rfl _ _ _ rfl b8 0 #[v0, .bool lk] rfl rfl _ _ #[v0, .bool lk] hb8 (by simp) rkeys_size HOC.out rfl ?_; intro w6 hb6 hu6 hs6))
              refine bodyPost_ret (results_cell_tmp rfl _ w6 b8 35 #[v0, .bool lk] (0, 0) _ rfl hb6 Tryd.underlying35 rfl rkeys_size) rfl ?_
              exact ⟨v0, rfl, HH.out.gr ((HS2.out.gr.trans hg5).upd hu6 (by simpa using HNW.out)), (HS2.out.gr.trans hg5).upd hu6 (by simpa using HNW.out)⟩
            · have hki2 : (k : Int) < (t.size : Int) := by omega
              go_wp2_with (first
                | (go_at_call 35; (with_reducible refine (hone _ (Gr.refl _)).mono ?_); rintro e w5 ⟨v5, rfl, _, _, hg5⟩; have hb8 := hg5.blk hb8; have hb4 := hg5.blk hb4; have z0 : w5.cell? ⟨b4, 0, none⟩ = some v0 := cell_of_row hb4 0 _ rfl; have z1 : w5.cell? ⟨b4, 1, none⟩ = some (.bool lk) := cell_of_row hb4 1 _ rfl)
                | (refine wpList_store_part rfl _ _ _ rfl b8 0 #[v0, .bool lk] rfl rfl _ _ #[v0, .bool lk] hb8 (by simp) rkeys_size HOC.out rfl ?_; intro w6 hb6 hu6 hs6))
              refine bodyPost_ret (results_cell_tmp rfl _ w6 b8 35 #[v0, .bool lk] (0, 0) _ rfl hb6 Tryd.underlying35 rfl rkeys_size) rfl ?_
              exact ⟨v0, rfl, HH.out.gr ((HS2.out.gr.trans hg5).upd hu6 (by simpa using HNW.out)), (HS2.out.gr.trans hg5).upd hu6 (by simpa using HNW.out)⟩
          · have hW2 : withR L0 (sps 59 d) = withR L' Rm' := by rw [HW.out, HWR.out]
            have HW2 := Lib.hid hW2
            clear hW2 hS
            rcases hcnd with hke | ⟨hkt, hkt', hch⟩
            · have hki2 : ¬ (k : Int) < (t.size : Int) := by omega
              clear hke
              go_wp2_with (first
                | (go_at_call 35; (with_reducible refine (hone _ (Gr.refl _)).mono ?_); rintro e w5 ⟨v5, rfl, hd5, _, hg5⟩)
                | fail)
              go_roundw
              case rel => exact ⟨k + 1, k + 1, L', Rm', by go_num, by go_num, by omega, HW2, HNX, HS2.out.step hg5 (hd5 _ rfl) (by rw [defR_len HOD.out.symm]; exact HS2.out.len)⟩
              case measure => simp [intOf]; omega
            · have hki2 : (k : Int) < (t.size : Int) := by omega
              go_wp2_with (first
                | (go_at_call 35; (with_reducible refine (hone _ (Gr.refl _)).mono ?_); rintro e w5 ⟨v5, rfl, hd5, _, hg5⟩)
                | fail)
              go_roundw
              case rel => exact ⟨k + 1, k + 1, L', Rm', by go_num, by go_num, by omega, HW2, HNX, HS2.out.step hg5 (hd5 _ rfl) (by rw [defR_len HOD.out.symm]; exact HS2.out.len)⟩
              case measure => simp [intOf]; omega
      · have hk1 : k = d.length + 1 := by omega
        have hki : ¬ (k : Int) ≤ (t.size : Int) := by have := HSZ.out; omega
        have hRn : Rm = [] := by
          rcases HRm.out with ⟨h1, _⟩ | ⟨_, _, h1⟩
          · omega
          · exact h1
        have hres : withR L0 (sps 59 d) = some Lc := by rw [HW.out, hRn]; rfl
        have hub := withR_bound hres hd hu0
        have hused := fun (W : World) (hg : Gr wr W) => rused_any W (hS.dl.gr hg) (by have := docGo_len 17 Lc; have := hS.len; unfold docL; omega) (by rw [used_doc]; exact hub)
        rw [used_doc] at hused
        obtain ⟨U, hU⟩ : ∃ U, U = usedL Lc := ⟨_, rfl⟩
        rw [← hU] at hused
        have HU := Lib.hid hU
        have HRES := Lib.hid hres
        have hb8 := hS.k8
        have hb4 := hS.k4
        have HS2 := Lib.hid hS
        clear hS hU hres hRn HRm hub
        by_cases h804 : 804 < U
        · have hr5 : r = (L, lk, 5) := by
            rw [HR.out, HRES.out]
            rw [HU.out] at h804
            simp [h804]
          subst hr5
          have h804i : (804 : Int) < (U : Int) := by omega
          have H8 := Lib.hid h804
          clear h804
          go_wp2_with (first
            | (go_at_call 26; (with_reducible refine (hused _ (Gr.refl _)).mono ?_); rintro e w5 ⟨rfl, rfl⟩)
            | (refine wpList_store_part rfl _ _ _ rfl b8 0 #[v0, .bool lk] rfl rfl _ _ #[v0, .bool lk] hb8 (by simp) rkeys_size HOC.out rfl ?_; intro w6 hb6 hu6 hs6))
          refine bodyPost_ret (results_cell_tmp rfl _ w6 b8 35 #[v0, .bool lk] (0, 0) _ rfl hb6 Tryd.underlying35 rfl rkeys_size) rfl ?_
          exact ⟨v0, rfl, HH.out.gr (HS2.out.gr.upd hu6 (by simpa using HNW.out)), HS2.out.gr.upd hu6 (by simpa using HNW.out)⟩
        · have h804i : ¬ (804 : Int) < (U : Int) := by omega
          have H8 := Lib.hid h804
          clear h804
          rcases lk with _ | _
          · have hr0 : r = (Lc, lock, 0) := by
              rw [HR.out, HRES.out]
              have := H8.out
              rw [HU.out] at this
              simp [this]
            subst hr0
            go_wp2_with (first
              | (go_at_call 26; (with_reducible refine (hused _ (Gr.refl _)).mono ?_); rintro e w5 ⟨rfl, rfl⟩)
              | (refine wpList_store_part rfl _ _ _ rfl b8 0 #[.slice ca (docL Lc).length cc, .bool lock] rfl rfl _ _ #[.slice ca (docL Lc).length cc, .bool lock] hb8 (by simp) rkeys_size (by simp [Value.oneCell']) rfl ?_; intro w6 hb6 hu6 hs6))
            refine bodyPost_ret (results_cell_tmp rfl _ w6 b8 35 #[.slice ca (docL Lc).length cc, .bool lock] (0, 0) _ rfl hb6 Tryd.underlying35 rfl rkeys_size) rfl ?_
            exact ⟨_, rfl, HS2.out.dl.upd hu6 hb8 (by decide), HS2.out.gr.upd hu6 (by simpa using HNW.out)⟩
          · have hr6 : r = (L, true, 6) := by
              rw [HR.out, HRES.out]
              have := H8.out
              rw [HU.out] at this
              simp [this]
            subst hr6
            go_wp2_with (first
              | (go_at_call 26; (with_reducible refine (hused _ (Gr.refl _)).mono ?_); rintro e w5 ⟨rfl, rfl⟩)
              | (refine wpList_store_part rfl _ _ _ rfl b8 0 #[v0, .bool true] rfl rfl _ _ #[v0, .bool true] hb8 (by simp) rkeys_size HOC.out rfl ?_; intro w6 hb6 hu6 hs6))
            refine bodyPost_ret (results_cell_tmp rfl _ w6 b8 35 #[v0, .bool true] (0, 0) _ rfl hb6 Tryd.underlying35 rfl rkeys_size) rfl ?_
            exact ⟨v0, rfl, HH.out.gr (HS2.out.gr.upd hu6 (by simpa using HNW.out)), HS2.out.gr.upd hu6 (by simpa using HNW.out)⟩
end Go.Proofs.YtdfohcnejdhkiaaDoor
