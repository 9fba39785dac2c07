/-
  few, walked (gen_mgk.py).
-/
import Derived.Test.YtaelmkkobjdgbaaZMgJ
namespace Go.Proofs.Ytaelmkkobjdgbaa
set_option linter.unusedSimpArgs false
set_option linter.unusedVariables false
open Go.RowKit
set_option linter.unusedVariables false

/-- An item's sizes as they are played. -/
def fewS (x : Itm) : Bool := (decide (40 < x.rw_) && decide (x.rw_ ≤ 500)) || (decide (90 < x.cl) && decide (x.cl ≤ 500))
def fewX (x : Itm) : Itm := ⟨x.at_, x.kd, x.da, x.dc, x.k0, x.k1, x.k2, x.k3, bif fewS x then 7 else x.rw_, bif fewS x then 9 else x.cl, if 300 < x.bs.length then x.bs.take 300 else x.bs⟩
def fewL (e : LE) : List Itm := (e.xs.take 12).map fewX
theorem fewX_bs (x : Itm) : (fewX x).bs = x.bs.take 300 := by
  unfold fewX
  simp only
  split
  · rfl
  · rw [List.take_of_length_le (by omega)]
theorem fewX_data {w : World} {x : Itm} (h : DataAt w x.da x.dc x.bs) : DataAt w (fewX x).da (fewX x).dc (fewX x).bs := by
  rw [fewX_bs]
  show DataAt w x.da x.dc (x.bs.take 300)
  rcases h with ⟨h1, h2, h3⟩ | ⟨y, h1, h2⟩ | ⟨b, off, C, T, fr, h1, h2, h3⟩
  · exact .inl ⟨h1, by rw [h2]; rfl, h3⟩
  · exact .inr (.inl ⟨y, h1, by rw [h2]; rfl⟩)
  · refine .inr (.inr ⟨b, off, C, T, fr, h1, h2, ?_⟩)
    rw [List.length_take, ← List.take_take, h3]
    unfold bcells
    rw [← List.map_take]
theorem run_cut300 {P : Program} {w : World} {o : Oper} {e : Nat → Value} {t : TypeId} {x9 y : Operand} {x : Itm} {w1 : World} (ho : o.op = .slice t x9 none (some y) none) (hx : evE e x9 = .slice x.da x.bs.length x.dc) (hy : evE e y = .int .i64 300)
    (ht : P.underlying t = some (.slice (P.elem t))) (hs : (P.info? (P.elem t)).map (·.size) = some 1) (hd : DataAt w1 x.da x.dc x.bs) (h3 : 300 < x.bs.length) (hc : x.bs.length ≤ x.dc) :
    (execOp (evE e) o).run P w = .ok (.value (.slice x.da (x.bs.take 300).length x.dc)) w := by
  have hl : (x.bs.take 300).length = 300 := by rw [List.length_take]; omega
  rw [hl]
  rcases hd with ⟨h1, h2, _⟩ | ⟨y, h1, h2⟩ | ⟨b, off, C, T, fr, h1, h2, _⟩
  · rw [h2] at h3; simp at h3
  · rw [h2] at h3; simp at h3
  · rw [h1] at hx ⊢
    exact run_to (w := w) (i := 300) ho hx hy rfl ht hs (by omega)
theorem few_take {Ls : List LE} {k : Nat} (h : k < Ls.length) : Ls.take (k + 1) = Ls.take k ++ [Ls.getD k le0] := by
  rw [List.take_add_one, List.getD_eq_getElem?_getD, List.getElem?_eq_getElem h]; rfl
theorem few_takex {xs : List Itm} {k : Nat} (h : k < xs.length) : xs.take (k + 1) = xs.take k ++ [xs.getD k itm0] := by
  rw [List.take_add_one, List.getD_eq_getElem?_getD, List.getElem?_eq_getElem h]; rfl
set_option maxRecDepth 100000 in
set_option maxHeartbeats 8000000 in
theorem few_any (sa : Option Addr) (sc : Nat) (Ls : List LE) (w : World) (hOut : OutAt w sa Ls) (hLF : LF Ls w) (hcap : ∀ e ∈ Ls, ∀ x ∈ e.xs, x.bs.length ≤ x.dc) (hbig : Ls.length ≤ 9223372036854775807) (hbig2 : ∀ e ∈ Ls, e.xs.length ≤ 9223372036854775807 ∧ ∀ x ∈ e.xs, x.bs.length ≤ 9223372036854775807) : Calls Try.prog 6 #[.slice sa Ls.length sc] w fun e w' => ∃ out ao co, e = .returned (.slice ao out.length co) ∧ out.map LE.xs = (Ls.take 8).map fewL ∧ SH [] w w' [rowH 25 1 ao out.length co (lcells out), allH (out.map (rowP 30))] := by
  refine calls_sx (n := 75) (args := [.slice sa Ls.length sc]) Try.func6 rfl rfl rfl ?_
  have hs0 := SH.none w
  refine CW.seq ?_
  refine CW.region ?_
  refine SL.v (.slice none 0 0) ?_
  refine SL.nil ?_
  refine CW.seq ?_
  refine CW.region ?_
  refine SL.v (.slice none 0 0) ?_
  refine SL.nil ?_
  refine CW.seq ?_
  refine CW.seq ?_
  refine CW.region ?_
  refine SL.v (.int .i64 0) ?_
  refine SL.nil ?_
  refine CW.block ?_
  have hs_1 := (hs0.row0 25 1).all0
  have hs_2 : SH [] w w [rowH 25 1 none (([] : List LE)).length 0 (lcells ([] : List LE)), allH (([] : List LE).map (rowP 30))] := hs_1
  refine CW.loopI (fun m_ e9 w9 => ∃ (k : Nat), ∃ (out : List LE), ∃ (ao : Option Addr), ∃ (co : Nat), m_ = 8 - k ∧ SH [] w w9 [rowH 25 1 ao (out).length co (lcells out), allH (out.map (rowP 30))] ∧ (k ≤ Ls.length) ∧ (k ≤ 8) ∧ (out.map LE.xs = (Ls.take k).map fewL) ∧ e9 0 = .slice sa Ls.length sc ∧ e9 2 = .slice none 0 0 ∧ e9 3 = .slice ao ((out).length) co ∧ e9 4 = .int .i64 ((k : Nat) : Int)) ⟨_, 0, [], none, 0, rfl, hs_2, (Nat.zero_le _), (Nat.zero_le _), rfl, (by kernel_rfl), (by kernel_rfl), (by kernel_rfl), (by kernel_rfl)⟩ ?_
  rintro m_3 e_4 w_5 ⟨k, out, ao, co, hm_7, hs_6, hk, hk8, hsp, hv_8, hv_9, hv_10, hv_11⟩
  obtain ⟨e_12, rfl⟩ : ∃ e_12, e_4 = put1 (put1 (put1 (put1 e_12 0 (.slice sa Ls.length sc)) 2 (.slice none 0 0)) 3 (.slice ao ((out).length) co)) 4 (.int .i64 ((k : Nat) : Int)) := ⟨e_4, (put_self hv_11).trans (congrArg (fun z => put1 z 4 (.int .i64 ((k : Nat) : Int))) ((put_self hv_10).trans (congrArg (fun z => put1 z 3 (.slice ao ((out).length) co)) ((put_self hv_9).trans (congrArg (fun z => put1 z 2 (.slice none 0 0)) (put_self hv_8))))))⟩
  clear hv_8 hv_9 hv_10 hv_11
  obtain ⟨E, hE⟩ : ∃ E, E = Ls.getD k le0 := ⟨_, rfl⟩
  have hol9 : out.length = k := by have h_ := congrArg List.length hsp; rw [List.length_map, List.length_map, List.length_take] at h_; omega
  refine CW.seq ?_
  refine CW.seq ?_
  refine CW.region ?_
  refine SL.v (.int .i64 ((k : Nat) : Int)) ?_
  refine SL.v (.slice sa Ls.length sc) ?_
  refine SL.val (v := .int .i64 ((Ls.length : Nat) : Int)) (w' := w_5) rfl rfl (by kernel_rfl) ?_
  refine SL.v (.bool (decide (((k : Nat) : Int) < ((Ls.length : Nat) : Int)))) ?_
  refine SL.v (.bool (decide (((k : Nat) : Int) < ((Ls.length : Nat) : Int)))) ?_
  rcases Bool.eq_false_or_eq_true (decide (((k : Nat) : Int) < ((Ls.length : Nat) : Int))) with hb_13 | hb_13
  · try rw [hb_13]
    have hqhb_13 := of_decide_eq_true hb_13
    refine SL.go ?_
    refine SL.v (.int .i64 ((k : Nat) : Int)) ?_
    refine SL.go ?_
    refine SL.v (.bool (decide (((k : Nat) : Int) < 8))) ?_
    refine SL.v (.bool (decide (((k : Nat) : Int) < 8))) ?_
    refine SL.nil ?_
    rcases Bool.eq_false_or_eq_true (decide (((k : Nat) : Int) < 8)) with hb_14 | hb_14
    · try rw [hb_14]
      have hqhb_14 := of_decide_eq_true hb_14
      refine CW.cond_true (by kernel_rfl) ?_
      refine CW.skip ?_
      refine CW.seq ?_
      refine CW.block ?_
      refine CW.seq ?_
      refine CW.region ?_
      refine SL.v (.slice none 0 0) ?_
      refine SL.nil ?_
      refine CW.seq ?_
      refine CW.seq ?_
      refine CW.region ?_
      refine SL.v (.int .i64 0) ?_
      refine SL.nil ?_
      refine CW.block ?_
      have hs_15 := hs_6.row0 30 9
      have hs_16 : SH [] w w_5 [rowH 25 1 ao (out).length co (lcells out), allH (out.map (rowP 30)), rowH 30 9 none (([] : List Itm)).length 0 (xcells ([] : List Itm))] := hs_15
      refine CW.loopI (fun m_ e9 w9 => ∃ (j : Nat), ∃ (xs : List Itm), ∃ (ai : Option Addr), ∃ (ci : Nat), m_ = 12 - j ∧ SH [] w w9 [rowH 25 1 ao (out).length co (lcells out), allH (out.map (rowP 30)), rowH 30 9 ai (xs).length ci (xcells xs)] ∧ (j ≤ E.xs.length) ∧ (j ≤ 12) ∧ (xs = (E.xs.take j).map fewX) ∧ e9 0 = .slice sa Ls.length sc ∧ e9 2 = .slice none 0 0 ∧ e9 3 = .slice ao ((out).length) co ∧ e9 4 = .int .i64 ((k : Nat) : Int) ∧ e9 5 = .slice ai ((xs).length) ci ∧ e9 6 = .int .i64 ((j : Nat) : Int) ∧ e9 13 = .int .i64 ((k : Nat) : Int) ∧ e9 14 = .bool true ∧ e9 15 = .bool true) ⟨_, 0, [], none, 0, rfl, hs_16, (Nat.zero_le _), (Nat.zero_le _), rfl, (by kernel_rfl), (by kernel_rfl), (by kernel_rfl), (by kernel_rfl), (by kernel_rfl), (by kernel_rfl), (by kernel_rfl), (by kernel_rfl), (by kernel_rfl)⟩ ?_
      rintro m_17 e_18 w_19 ⟨j, xs, ai, ci, hm_21, hs_20, hj, hj12, hxs, hv_22, hv_23, hv_24, hv_25, hv_26, hv_27, hv_28, hv_29, hv_30⟩
      obtain ⟨e_31, rfl⟩ : ∃ e_31, e_18 = put1 (put1 (put1 (put1 (put1 (put1 (put1 (put1 (put1 e_31 0 (.slice sa Ls.length sc)) 2 (.slice none 0 0)) 3 (.slice ao ((out).length) co)) 4 (.int .i64 ((k : Nat) : Int))) 5 (.slice ai ((xs).length) ci)) 6 (.int .i64 ((j : Nat) : Int))) 13 (.int .i64 ((k : Nat) : Int))) 14 (.bool true)) 15 (.bool true) := ⟨e_18, (put_self hv_30).trans (congrArg (fun z => put1 z 15 (.bool true)) ((put_self hv_29).trans (congrArg (fun z => put1 z 14 (.bool true)) ((put_self hv_28).trans (congrArg (fun z => put1 z 13 (.int .i64 ((k : Nat) : Int))) ((put_self hv_27).trans (congrArg (fun z => put1 z 6 (.int .i64 ((j : Nat) : Int))) ((put_self hv_26).trans (congrArg (fun z => put1 z 5 (.slice ai ((xs).length) ci)) ((put_self hv_25).trans (congrArg (fun z => put1 z 4 (.int .i64 ((k : Nat) : Int))) ((put_self hv_24).trans (congrArg (fun z => put1 z 3 (.slice ao ((out).length) co)) ((put_self hv_23).trans (congrArg (fun z => put1 z 2 (.slice none 0 0)) (put_self hv_22))))))))))))))))⟩
      clear hv_22 hv_23 hv_24 hv_25 hv_26 hv_27 hv_28 hv_29 hv_30
      obtain ⟨X, hX⟩ : ∃ X, X = E.xs.getD j itm0 := ⟨_, rfl⟩
      have hXd : j < E.xs.length → k < Ls.length → DataAt w X.da X.dc X.bs ∧ X.bs.length ≤ X.dc := fun h1 h2 => by rw [hX]; exact ⟨((hLF _ (getD_mem h2)).2 _ (by rw [← hE]; exact getDx_mem h1)), hcap _ (getD_mem h2) _ (by rw [← hE]; exact getDx_mem h1)⟩
      have hxl9 : xs.length = j := by rw [hxs, List.length_map, List.length_take]; omega
      refine CW.seq ?_
      refine CW.seq ?_
      refine CW.region ?_
      refine SL.v (.int .i64 ((j : Nat) : Int)) ?_
      refine SL.v (.slice sa Ls.length sc) ?_
      refine SL.v (.int .i64 ((k : Nat) : Int)) ?_
      obtain ⟨sb, soff, sC, sT, sfr, hsa, hsb, hsrc⟩ := hOut (by omega)
      refine SL.val (v := .pointer (some ⟨sb, soff + k, none⟩)) (w' := w_19) rfl rfl ((run_ixS (len := Ls.length) (cap := sc) (q := .i64) (I := ((k : Nat) : Int)) (i := k) (size := 1) hsa rfl (by kernel_rfl) (by kernel_rfl) rfl (by kernel_rfl) (by kernel_rfl) (by omega)).trans (by rw [Nat.mul_one])) ?_
      refine SL.load (g := sb) (off := soff + k) (v := .slice E.a E.xs.length E.c) rfl rfl rfl (by kernel_rfl) (hs_20.gr.blk hsb) (ldV_one (by kernel_rfl) (by kernel_rfl) (by have h_ := hsrc k (by omega); rw [← hE] at h_; exact h_)) ?_
      refine SL.val (v := .int .i64 ((E.xs.length : Nat) : Int)) (w' := w_19) rfl rfl (by kernel_rfl) ?_
      refine SL.v (.bool (decide (((j : Nat) : Int) < ((E.xs.length : Nat) : Int)))) ?_
      refine SL.v (.bool (decide (((j : Nat) : Int) < ((E.xs.length : Nat) : Int)))) ?_
      rcases Bool.eq_false_or_eq_true (decide (((j : Nat) : Int) < ((E.xs.length : Nat) : Int))) with hb_32 | hb_32
      · try rw [hb_32]
        have hqhb_32 := of_decide_eq_true hb_32
        refine SL.go ?_
        refine SL.v (.int .i64 ((j : Nat) : Int)) ?_
        refine SL.go ?_
        refine SL.v (.bool (decide (((j : Nat) : Int) < 12))) ?_
        refine SL.v (.bool (decide (((j : Nat) : Int) < 12))) ?_
        refine SL.nil ?_
        rcases Bool.eq_false_or_eq_true (decide (((j : Nat) : Int) < 12)) with hb_33 | hb_33
        · try rw [hb_33]
          have hqhb_33 := of_decide_eq_true hb_33
          refine CW.cond_true (by kernel_rfl) ?_
          refine CW.skip ?_
          refine CW.seq ?_
          refine CW.block ?_
          refine CW.seq ?_
          refine CW.region ?_
          refine SL.v (.slice sa Ls.length sc) ?_
          refine SL.v (.int .i64 ((k : Nat) : Int)) ?_
          refine SL.val (v := .pointer (some ⟨sb, soff + k, none⟩)) (w' := w_19) rfl rfl ((run_ixS (len := Ls.length) (cap := sc) (q := .i64) (I := ((k : Nat) : Int)) (i := k) (size := 1) hsa rfl (by kernel_rfl) (by kernel_rfl) rfl (by kernel_rfl) (by kernel_rfl) (by omega)).trans (by rw [Nat.mul_one])) ?_
          refine SL.load (g := sb) (off := soff + k) (v := .slice E.a E.xs.length E.c) rfl rfl rfl (by kernel_rfl) (hs_20.gr.blk hsb) (ldV_one (by kernel_rfl) (by kernel_rfl) (by have h_ := hsrc k (by omega); rw [← hE] at h_; exact h_)) ?_
          refine SL.v (.int .i64 ((j : Nat) : Int)) ?_
          obtain ⟨ib, ioff, hia, hir⟩ := (hLF _ (getD_mem (Ls := Ls) (k := k) (by omega))).1 (by rw [← hE]; omega)
          rw [← hE] at hia hir
          refine SL.val (v := .pointer (some ⟨ib, ioff + j * 9, none⟩)) (w' := w_19) rfl rfl (run_ixS (len := E.xs.length) (cap := E.c) (q := .i64) (I := ((j : Nat) : Int)) (i := j) (size := 9) hia rfl (by kernel_rfl) (by kernel_rfl) rfl (by kernel_rfl) (by kernel_rfl) (by omega)) ?_
          refine SL.load (g := ib) (off := ioff + j * 9) (v := .agg #[.int .i64 X.at_, .int .i64 X.kd, .slice X.da X.bs.length X.dc, .int .i64 X.k0, .int .u8 X.k1, .bool X.k2, .bool X.k3, .int .i64 X.rw_, .int .i64 X.cl]) rfl rfl rfl (by kernel_rfl) (hir.gr hs_20.gr).blk (ldV_row (k := 9) (by kernel_rfl) (by kernel_rfl) ((hir.gr hs_20.gr).many (i := j) (by omega) (j := 0) (show ((itC (E.xs.getD j itm0)).drop 0).take 9 = _ by rw [← hX]; rfl) (by decide)) rfl rfl) ?_
          refine SL.newH (mk := fun g => .pointer (some ⟨g, 0, none⟩)) (C := #[.int .i64 0, .int .i64 0, .slice none 0 0, .int .i64 0, .int .u8 0, .bool false, .bool false, .int .i64 0, .int .i64 0]) (T := 30) hs_20 rfl rfl (by kernel_rfl) (fun g_34 w_35 hs_36 => ?_)
          have hs_36 : SH [] w w_35 [rowH 25 1 ao (out).length co (lcells out), allH (out.map (rowP 30)), rowH 30 9 ai (xs).length ci (xcells xs), pt g_34 #[.int .i64 0, .int .i64 0, .slice none 0 0, .int .i64 0, .int .u8 0, .bool false, .bool false, .int .i64 0, .int .i64 0] 30] := hs_36
          refine SL.storeH (i := 3) (g := g_34) (off := 0) (v := .agg #[.int .i64 X.at_, .int .i64 X.kd, .slice X.da X.bs.length X.dc, .int .i64 X.k0, .int .u8 X.k1, .bool X.k2, .bool X.k3, .int .i64 X.rw_, .int .i64 X.cl]) (L' := [rowH 25 1 ao (out).length co (lcells out), allH (out.map (rowP 30)), rowH 30 9 ai (xs).length ci (xcells xs), pt g_34 #[.int .i64 X.at_, .int .i64 X.kd, .slice X.da X.bs.length X.dc, .int .i64 X.k0, .int .u8 X.k1, .bool X.k2, .bool X.k3, .int .i64 X.rw_, .int .i64 X.cl] 30]) hs_36 rfl rfl rfl (by kernel_rfl) (by kernel_rfl) rfl (by kernel_rfl) (by kernel_rfl) rfl (by kernel_rfl) rfl (fun w_37 hs_38 => ?_)
          refine SL.nil ?_
          refine CW.seq ?_
          refine CW.seq ?_
          refine CW.region ?_
          refine SL.v (.pointer (some ⟨g_34, 2, none⟩)) ?_
          refine SL.load (g := g_34) (off := 2) (v := .slice X.da X.bs.length X.dc) rfl rfl rfl (by kernel_rfl) (hs_38.pt_at (i := 3) rfl) (by kernel_rfl) ?_
          refine SL.val (v := .int .i64 ((X.bs.length : Nat) : Int)) (w' := w_37) rfl rfl (by kernel_rfl) ?_
          refine SL.v (.bool (decide (300 < ((X.bs.length : Nat) : Int)))) ?_
          refine SL.nil ?_
          rcases Bool.eq_false_or_eq_true (decide (300 < ((X.bs.length : Nat) : Int))) with hb_39 | hb_39
          · try rw [hb_39]
            have hqhb_39 := of_decide_eq_true hb_39
            have hXc_ := (hXd (by omega) (by omega)).2
            have hXd := (hXd (by omega) (by omega)).1
            refine CW.cond_true (by kernel_rfl) ?_
            refine CW.region ?_
            refine SL.v (.pointer (some ⟨g_34, 2, none⟩)) ?_
            refine SL.load (g := g_34) (off := 2) (v := .slice X.da X.bs.length X.dc) rfl rfl rfl (by kernel_rfl) (hs_38.pt_at (i := 3) rfl) (by kernel_rfl) ?_
            refine SL.val (v := .slice X.da ((X.bs.take 300).length) X.dc) (w' := w_37) rfl rfl (run_cut300 (x := X) rfl (by kernel_rfl) (by kernel_rfl) (by kernel_rfl) (by kernel_rfl) hXd (by omega) (by omega)) ?_
            refine SL.v (.pointer (some ⟨g_34, 2, none⟩)) ?_
            refine SL.storeH (i := 3) (g := g_34) (off := 2) (v := .slice X.da ((X.bs.take 300).length) X.dc) (L' := [rowH 25 1 ao (out).length co (lcells out), allH (out.map (rowP 30)), rowH 30 9 ai (xs).length ci (xcells xs), pt g_34 #[.int .i64 X.at_, .int .i64 X.kd, .slice X.da ((X.bs.take 300).length) X.dc, .int .i64 X.k0, .int .u8 X.k1, .bool X.k2, .bool X.k3, .int .i64 X.rw_, .int .i64 X.cl] 30]) hs_38 rfl rfl rfl (by kernel_rfl) (by kernel_rfl) rfl (by kernel_rfl) (by kernel_rfl) rfl (by kernel_rfl) rfl (fun w_40 hs_41 => ?_)
            refine SL.nil ?_
            refine CW.seq ?_
            refine CW.seq ?_
            refine CW.region ?_
            refine SL.v (.pointer (some ⟨g_34, 7, none⟩)) ?_
            refine SL.load (g := g_34) (off := 7) (v := .int .i64 X.rw_) rfl rfl rfl (by kernel_rfl) (hs_41.pt_at (i := 3) rfl) (by kernel_rfl) ?_
            refine SL.v (.bool (decide (40 < X.rw_))) ?_
            refine SL.v (.bool (decide (40 < X.rw_))) ?_
            rcases Bool.eq_false_or_eq_true (decide (40 < X.rw_)) with hb_42 | hb_42
            · try rw [hb_42]
              have hqhb_42 := of_decide_eq_true hb_42
              refine SL.go ?_
              refine SL.v (.pointer (some ⟨g_34, 7, none⟩)) ?_
              refine SL.go ?_
              refine SL.load (g := g_34) (off := 7) (v := .int .i64 X.rw_) rfl rfl rfl (by kernel_rfl) (hs_41.pt_at (i := 3) rfl) (by kernel_rfl) ?_
              refine SL.go ?_
              refine SL.v (.bool (decide (X.rw_ ≤ 500))) ?_
              refine SL.v (.bool (decide (X.rw_ ≤ 500))) ?_
              refine SL.v (.bool (decide (X.rw_ ≤ 500))) ?_
              rcases Bool.eq_false_or_eq_true (decide (X.rw_ ≤ 500)) with hb_43 | hb_43
              · try rw [hb_43]
                have hqhb_43 := of_decide_eq_true hb_43
                refine SL.no true ?_
                refine SL.no true ?_
                refine SL.no true ?_
                refine SL.no true ?_
                refine SL.un ?_
                refine SL.un ?_
                refine SL.un ?_
                refine SL.no true ?_
                refine SL.v (.bool true) ?_
                refine SL.nil ?_
                refine CW.cond_true (by kernel_rfl) ?_
                refine CW.region ?_
                refine SL.v (.pointer (some ⟨g_34, 7, none⟩)) ?_
                refine SL.storeH (i := 3) (g := g_34) (off := 7) (v := .int .i64 7) (L' := [rowH 25 1 ao (out).length co (lcells out), allH (out.map (rowP 30)), rowH 30 9 ai (xs).length ci (xcells xs), pt g_34 #[.int .i64 X.at_, .int .i64 X.kd, .slice X.da ((X.bs.take 300).length) X.dc, .int .i64 X.k0, .int .u8 X.k1, .bool X.k2, .bool X.k3, .int .i64 7, .int .i64 X.cl] 30]) hs_41 rfl rfl rfl (by kernel_rfl) (by kernel_rfl) rfl (by kernel_rfl) (by kernel_rfl) rfl (by kernel_rfl) rfl (fun w_44 hs_45 => ?_)
                refine SL.v (.pointer (some ⟨g_34, 8, none⟩)) ?_
                refine SL.storeH (i := 3) (g := g_34) (off := 8) (v := .int .i64 9) (L' := [rowH 25 1 ao (out).length co (lcells out), allH (out.map (rowP 30)), rowH 30 9 ai (xs).length ci (xcells xs), pt g_34 #[.int .i64 X.at_, .int .i64 X.kd, .slice X.da ((X.bs.take 300).length) X.dc, .int .i64 X.k0, .int .u8 X.k1, .bool X.k2, .bool X.k3, .int .i64 7, .int .i64 9] 30]) hs_45 rfl rfl rfl (by kernel_rfl) (by kernel_rfl) rfl (by kernel_rfl) (by kernel_rfl) rfl (by kernel_rfl) rfl (fun w_46 hs_47 => ?_)
                refine SL.nil ?_
                refine CW.region ?_
                refine SL.v (.slice ai ((xs).length) ci) ?_
                refine SL.load (g := g_34) (off := 0) (v := .agg #[.int .i64 X.at_, .int .i64 X.kd, .slice X.da ((X.bs.take 300).length) X.dc, .int .i64 X.k0, .int .u8 X.k1, .bool X.k2, .bool X.k3, .int .i64 7, .int .i64 9]) rfl rfl rfl (by kernel_rfl) (hs_47.pt_at (i := 3) rfl) (by kernel_rfl) ?_
                refine SL.newH (mk := fun g => .slice (some ⟨g, 0, none⟩) 1 1) (C := #[.int .i64 X.at_, .int .i64 X.kd, .slice X.da ((X.bs.take 300).length) X.dc, .int .i64 X.k0, .int .u8 X.k1, .bool X.k2, .bool X.k3, .int .i64 7, .int .i64 9]) (T := 30) hs_47 rfl rfl (by kernel_rfl) (fun g_48 w_49 hs_50 => ?_)
                have hs_50 : SH [] w w_49 [rowH 25 1 ao (out).length co (lcells out), allH (out.map (rowP 30)), rowH 30 9 ai (xs).length ci (xcells xs), pt g_34 #[.int .i64 X.at_, .int .i64 X.kd, .slice X.da ((X.bs.take 300).length) X.dc, .int .i64 X.k0, .int .u8 X.k1, .bool X.k2, .bool X.k3, .int .i64 7, .int .i64 9] 30, pt g_48 #[.int .i64 X.at_, .int .i64 X.kd, .slice X.da ((X.bs.take 300).length) X.dc, .int .i64 X.k0, .int .u8 X.k1, .bool X.k2, .bool X.k3, .int .i64 7, .int .i64 9] 30] := hs_50
                refine SL.appR (z := .agg #[.int .i64 0, .int .i64 0, .slice none 0 0, .int .i64 0, .int .u8 0, .bool false, .bool false, .int .i64 0, .int .i64 0]) (size := 9) (bytes := 72) (el := 30) (m := 1) (news := [.int .i64 X.at_, .int .i64 X.kd, .slice X.da ((X.bs.take 300).length) X.dc, .int .i64 X.k0, .int .u8 X.k1, .bool X.k2, .bool X.k3, .int .i64 7, .int .i64 9]) (i := 2) (xs' := xcells (xs ++ [(⟨X.at_, X.kd, X.da, X.dc, X.k0, X.k1, X.k2, X.k3, 7, 9, (X.bs.take 300)⟩ : Itm)])) (k' := (xs ++ [(⟨X.at_, X.kd, X.da, X.dc, X.k0, X.k1, X.k2, X.k3, 7, 9, (X.bs.take 300)⟩ : Itm)]).length) (L' := [rowH 25 1 ao (out).length co (lcells out), allH (out.map (rowP 30)), pt g_34 #[.int .i64 X.at_, .int .i64 X.kd, .slice X.da ((X.bs.take 300).length) X.dc, .int .i64 X.k0, .int .u8 X.k1, .bool X.k2, .bool X.k3, .int .i64 7, .int .i64 9] 30, pt g_48 #[.int .i64 X.at_, .int .i64 X.kd, .slice X.da ((X.bs.take 300).length) X.dc, .int .i64 X.k0, .int .u8 X.k1, .bool X.k2, .bool X.k3, .int .i64 7, .int .i64 9] 30]) hs_50 rfl rfl rfl (by kernel_rfl) (by kernel_rfl) (by kernel_rfl) (by kernel_rfl) (by kernel_rfl) (by kernel_rfl) rfl rfl (srcH (off := 0) (cs := [.int .i64 X.at_, .int .i64 X.kd, .slice X.da ((X.bs.take 300).length) X.dc, .int .i64 X.k0, .int .u8 X.k1, .bool X.k2, .bool X.k3, .int .i64 7, .int .i64 9]) (el := 30) (by kernel_rfl) (hs_50.pt_at (i := 4) rfl) rfl rfl (List.all_eq_true.1 (by kernel_rfl))) (by (try simp only [List.length_append, List.length_cons, List.length_nil]); omega) (xcells_app xs ([(⟨X.at_, X.kd, X.da, X.dc, X.k0, X.k1, X.k2, X.k3, 7, 9, (X.bs.take 300)⟩ : Itm)])) (by first | (simp; done) | (simp only [List.length_append, List.length_cons, List.length_nil] <;> omega)) rfl (fun a_51 c_52 w_53 hs_54 => ?_)
                have hs_54 : SH [] w w_53 [rowH 25 1 ao (out).length co (lcells out), allH (out.map (rowP 30)), pt g_34 #[.int .i64 X.at_, .int .i64 X.kd, .slice X.da ((X.bs.take 300).length) X.dc, .int .i64 X.k0, .int .u8 X.k1, .bool X.k2, .bool X.k3, .int .i64 7, .int .i64 9] 30, pt g_48 #[.int .i64 X.at_, .int .i64 X.kd, .slice X.da ((X.bs.take 300).length) X.dc, .int .i64 X.k0, .int .u8 X.k1, .bool X.k2, .bool X.k3, .int .i64 7, .int .i64 9] 30, rowH 30 9 a_51 (xs ++ [(⟨X.at_, X.kd, X.da, X.dc, X.k0, X.k1, X.k2, X.k3, 7, 9, (X.bs.take 300)⟩ : Itm)]).length c_52 (xcells (xs ++ [(⟨X.at_, X.kd, X.da, X.dc, X.k0, X.k1, X.k2, X.k3, 7, 9, (X.bs.take 300)⟩ : Itm)]))] := hs_54
                refine SL.v (.slice a_51 ((xs ++ [(⟨X.at_, X.kd, X.da, X.dc, X.k0, X.k1, X.k2, X.k3, 7, 9, (X.bs.take 300)⟩ : Itm)]).length) c_52) ?_
                refine SL.nil ?_
                refine CW.region ?_
                refine SL.v (.int .i64 ((j : Nat) : Int)) ?_
                refine SL.val (v := .int .i64 ((j + 1 : Nat) : Int)) (w' := w_53) rfl rfl (by have hw : IntKind.i64.wrap (((j : Nat) : Int) + 1) = ((j + 1 : Nat) : Int) := (IntWalk.i64_in _ (by omega)).trans (by omega); exact run_eqv (by kernel_rfl) (congrArg (fun z => Value.int .i64 z) hw)) ?_
                refine SL.v (.int .i64 ((j + 1 : Nat) : Int)) ?_
                refine SL.nil ?_
                have hx9_ : xs ++ [(⟨X.at_, X.kd, X.da, X.dc, X.k0, X.k1, X.k2, X.k3, 7, 9, (X.bs.take 300)⟩ : Itm)] = (E.xs.take (j + 1)).map fewX := by
                  have hf_ : fewS X = true := by unfold fewS; rw [hb_42, hb_43]; rfl
                  rw [few_takex (by omega), List.map_append, ← hxs, ← hX]
                  congr 1
                  show [_] = [fewX X]
                  unfold fewX
                  rw [hf_, if_pos (by omega)]
                  rfl
                exact ⟨_, ⟨j + 1, xs ++ [(⟨X.at_, X.kd, X.da, X.dc, X.k0, X.k1, X.k2, X.k3, 7, 9, (X.bs.take 300)⟩ : Itm)], a_51, c_52, rfl, (hs_54.pick [0, 0, 2] rfl), (by omega), (by omega), hx9_, (by kernel_rfl), (by kernel_rfl), (by kernel_rfl), (by kernel_rfl), (by kernel_rfl), (by kernel_rfl), (by kernel_rfl), (by kernel_rfl), (by kernel_rfl)⟩, by omega⟩
              · try rw [hb_43]
                have hqhb_43 := of_decide_eq_false hb_43
                refine SL.go ?_
                refine SL.v (.pointer (some ⟨g_34, 8, none⟩)) ?_
                refine SL.go ?_
                refine SL.load (g := g_34) (off := 8) (v := .int .i64 X.cl) rfl rfl rfl (by kernel_rfl) (hs_41.pt_at (i := 3) rfl) (by kernel_rfl) ?_
                refine SL.go ?_
                refine SL.v (.bool (decide (90 < X.cl))) ?_
                refine SL.go ?_
                refine SL.v (.bool (decide (90 < X.cl))) ?_
                rcases Bool.eq_false_or_eq_true (decide (90 < X.cl)) with hb_56 | hb_56
                · try rw [hb_56]
                  have hqhb_56 := of_decide_eq_true hb_56
                  refine SL.go ?_
                  refine SL.v (.pointer (some ⟨g_34, 8, none⟩)) ?_
                  refine SL.go ?_
                  refine SL.load (g := g_34) (off := 8) (v := .int .i64 X.cl) rfl rfl rfl (by kernel_rfl) (hs_41.pt_at (i := 3) rfl) (by kernel_rfl) ?_
                  refine SL.go ?_
                  refine SL.v (.bool (decide (X.cl ≤ 500))) ?_
                  refine SL.go ?_
                  refine SL.v (.bool (decide (X.cl ≤ 500))) ?_
                  refine SL.v (.bool (decide (X.cl ≤ 500))) ?_
                  refine SL.nil ?_
                  rcases Bool.eq_false_or_eq_true (decide (X.cl ≤ 500)) with hb_57 | hb_57
                  · try rw [hb_57]
                    have hqhb_57 := of_decide_eq_true hb_57
                    refine CW.cond_true (by kernel_rfl) ?_
                    refine CW.region ?_
                    refine SL.v (.pointer (some ⟨g_34, 7, none⟩)) ?_
                    refine SL.storeH (i := 3) (g := g_34) (off := 7) (v := .int .i64 7) (L' := [rowH 25 1 ao (out).length co (lcells out), allH (out.map (rowP 30)), rowH 30 9 ai (xs).length ci (xcells xs), pt g_34 #[.int .i64 X.at_, .int .i64 X.kd, .slice X.da ((X.bs.take 300).length) X.dc, .int .i64 X.k0, .int .u8 X.k1, .bool X.k2, .bool X.k3, .int .i64 7, .int .i64 X.cl] 30]) hs_41 rfl rfl rfl (by kernel_rfl) (by kernel_rfl) rfl (by kernel_rfl) (by kernel_rfl) rfl (by kernel_rfl) rfl (fun w_58 hs_59 => ?_)
                    refine SL.v (.pointer (some ⟨g_34, 8, none⟩)) ?_
                    refine SL.storeH (i := 3) (g := g_34) (off := 8) (v := .int .i64 9) (L' := [rowH 25 1 ao (out).length co (lcells out), allH (out.map (rowP 30)), rowH 30 9 ai (xs).length ci (xcells xs), pt g_34 #[.int .i64 X.at_, .int .i64 X.kd, .slice X.da ((X.bs.take 300).length) X.dc, .int .i64 X.k0, .int .u8 X.k1, .bool X.k2, .bool X.k3, .int .i64 7, .int .i64 9] 30]) hs_59 rfl rfl rfl (by kernel_rfl) (by kernel_rfl) rfl (by kernel_rfl) (by kernel_rfl) rfl (by kernel_rfl) rfl (fun w_60 hs_61 => ?_)
                    refine SL.nil ?_
                    refine CW.region ?_
                    refine SL.v (.slice ai ((xs).length) ci) ?_
                    refine SL.load (g := g_34) (off := 0) (v := .agg #[.int .i64 X.at_, .int .i64 X.kd, .slice X.da ((X.bs.take 300).length) X.dc, .int .i64 X.k0, .int .u8 X.k1, .bool X.k2, .bool X.k3, .int .i64 7, .int .i64 9]) rfl rfl rfl (by kernel_rfl) (hs_61.pt_at (i := 3) rfl) (by kernel_rfl) ?_
                    refine SL.newH (mk := fun g => .slice (some ⟨g, 0, none⟩) 1 1) (C := #[.int .i64 X.at_, .int .i64 X.kd, .slice X.da ((X.bs.take 300).length) X.dc, .int .i64 X.k0, .int .u8 X.k1, .bool X.k2, .bool X.k3, .int .i64 7, .int .i64 9]) (T := 30) hs_61 rfl rfl (by kernel_rfl) (fun g_62 w_63 hs_64 => ?_)
                    have hs_64 : SH [] w w_63 [rowH 25 1 ao (out).length co (lcells out), allH (out.map (rowP 30)), rowH 30 9 ai (xs).length ci (xcells xs), pt g_34 #[.int .i64 X.at_, .int .i64 X.kd, .slice X.da ((X.bs.take 300).length) X.dc, .int .i64 X.k0, .int .u8 X.k1, .bool X.k2, .bool X.k3, .int .i64 7, .int .i64 9] 30, pt g_62 #[.int .i64 X.at_, .int .i64 X.kd, .slice X.da ((X.bs.take 300).length) X.dc, .int .i64 X.k0, .int .u8 X.k1, .bool X.k2, .bool X.k3, .int .i64 7, .int .i64 9] 30] := hs_64
                    refine SL.appR (z := .agg #[.int .i64 0, .int .i64 0, .slice none 0 0, .int .i64 0, .int .u8 0, .bool false, .bool false, .int .i64 0, .int .i64 0]) (size := 9) (bytes := 72) (el := 30) (m := 1) (news := [.int .i64 X.at_, .int .i64 X.kd, .slice X.da ((X.bs.take 300).length) X.dc, .int .i64 X.k0, .int .u8 X.k1, .bool X.k2, .bool X.k3, .int .i64 7, .int .i64 9]) (i := 2) (xs' := xcells (xs ++ [(⟨X.at_, X.kd, X.da, X.dc, X.k0, X.k1, X.k2, X.k3, 7, 9, (X.bs.take 300)⟩ : Itm)])) (k' := (xs ++ [(⟨X.at_, X.kd, X.da, X.dc, X.k0, X.k1, X.k2, X.k3, 7, 9, (X.bs.take 300)⟩ : Itm)]).length) (L' := [rowH 25 1 ao (out).length co (lcells out), allH (out.map (rowP 30)), pt g_34 #[.int .i64 X.at_, .int .i64 X.kd, .slice X.da ((X.bs.take 300).length) X.dc, .int .i64 X.k0, .int .u8 X.k1, .bool X.k2, .bool X.k3, .int .i64 7, .int .i64 9] 30, pt g_62 #[.int .i64 X.at_, .int .i64 X.kd, .slice X.da ((X.bs.take 300).length) X.dc, .int .i64 X.k0, .int .u8 X.k1, .bool X.k2, .bool X.k3, .int .i64 7, .int .i64 9] 30]) hs_64 rfl rfl rfl (by kernel_rfl) (by kernel_rfl) (by kernel_rfl) (by kernel_rfl) (by kernel_rfl) (by kernel_rfl) rfl rfl (srcH (off := 0) (cs := [.int .i64 X.at_, .int .i64 X.kd, .slice X.da ((X.bs.take 300).length) X.dc, .int .i64 X.k0, .int .u8 X.k1, .bool X.k2, .bool X.k3, .int .i64 7, .int .i64 9]) (el := 30) (by kernel_rfl) (hs_64.pt_at (i := 4) rfl) rfl rfl (List.all_eq_true.1 (by kernel_rfl))) (by (try simp only [List.length_append, List.length_cons, List.length_nil]); omega) (xcells_app xs ([(⟨X.at_, X.kd, X.da, X.dc, X.k0, X.k1, X.k2, X.k3, 7, 9, (X.bs.take 300)⟩ : Itm)])) (by first | (simp; done) | (simp only [List.length_append, List.length_cons, List.length_nil] <;> omega)) rfl (fun a_65 c_66 w_67 hs_68 => ?_)
                    have hs_68 : SH [] w w_67 [rowH 25 1 ao (out).length co (lcells out), allH (out.map (rowP 30)), pt g_34 #[.int .i64 X.at_, .int .i64 X.kd, .slice X.da ((X.bs.take 300).length) X.dc, .int .i64 X.k0, .int .u8 X.k1, .bool X.k2, .bool X.k3, .int .i64 7, .int .i64 9] 30, pt g_62 #[.int .i64 X.at_, .int .i64 X.kd, .slice X.da ((X.bs.take 300).length) X.dc, .int .i64 X.k0, .int .u8 X.k1, .bool X.k2, .bool X.k3, .int .i64 7, .int .i64 9] 30, rowH 30 9 a_65 (xs ++ [(⟨X.at_, X.kd, X.da, X.dc, X.k0, X.k1, X.k2, X.k3, 7, 9, (X.bs.take 300)⟩ : Itm)]).length c_66 (xcells (xs ++ [(⟨X.at_, X.kd, X.da, X.dc, X.k0, X.k1, X.k2, X.k3, 7, 9, (X.bs.take 300)⟩ : Itm)]))] := hs_68
                    refine SL.v (.slice a_65 ((xs ++ [(⟨X.at_, X.kd, X.da, X.dc, X.k0, X.k1, X.k2, X.k3, 7, 9, (X.bs.take 300)⟩ : Itm)]).length) c_66) ?_
                    refine SL.nil ?_
                    refine CW.region ?_
                    refine SL.v (.int .i64 ((j : Nat) : Int)) ?_
                    refine SL.val (v := .int .i64 ((j + 1 : Nat) : Int)) (w' := w_67) rfl rfl (by have hw : IntKind.i64.wrap (((j : Nat) : Int) + 1) = ((j + 1 : Nat) : Int) := (IntWalk.i64_in _ (by omega)).trans (by omega); exact run_eqv (by kernel_rfl) (congrArg (fun z => Value.int .i64 z) hw)) ?_
                    refine SL.v (.int .i64 ((j + 1 : Nat) : Int)) ?_
                    refine SL.nil ?_
                    have hx9_ : xs ++ [(⟨X.at_, X.kd, X.da, X.dc, X.k0, X.k1, X.k2, X.k3, 7, 9, (X.bs.take 300)⟩ : Itm)] = (E.xs.take (j + 1)).map fewX := by
                      have hf_ : fewS X = true := by unfold fewS; rw [hb_42, hb_43, hb_56, hb_57]; rfl
                      rw [few_takex (by omega), List.map_append, ← hxs, ← hX]
                      congr 1
                      show [_] = [fewX X]
                      unfold fewX
                      rw [hf_, if_pos (by omega)]
                      rfl
                    exact ⟨_, ⟨j + 1, xs ++ [(⟨X.at_, X.kd, X.da, X.dc, X.k0, X.k1, X.k2, X.k3, 7, 9, (X.bs.take 300)⟩ : Itm)], a_65, c_66, rfl, (hs_68.pick [0, 0, 2] rfl), (by omega), (by omega), hx9_, (by kernel_rfl), (by kernel_rfl), (by kernel_rfl), (by kernel_rfl), (by kernel_rfl), (by kernel_rfl), (by kernel_rfl), (by kernel_rfl), (by kernel_rfl)⟩, by omega⟩
                  · try rw [hb_57]
                    have hqhb_57 := of_decide_eq_false hb_57
                    refine CW.cond_false (by kernel_rfl) ?_
                    refine CW.skip ?_
                    refine CW.region ?_
                    refine SL.v (.slice ai ((xs).length) ci) ?_
                    refine SL.load (g := g_34) (off := 0) (v := .agg #[.int .i64 X.at_, .int .i64 X.kd, .slice X.da ((X.bs.take 300).length) X.dc, .int .i64 X.k0, .int .u8 X.k1, .bool X.k2, .bool X.k3, .int .i64 X.rw_, .int .i64 X.cl]) rfl rfl rfl (by kernel_rfl) (hs_41.pt_at (i := 3) rfl) (by kernel_rfl) ?_
                    refine SL.newH (mk := fun g => .slice (some ⟨g, 0, none⟩) 1 1) (C := #[.int .i64 X.at_, .int .i64 X.kd, .slice X.da ((X.bs.take 300).length) X.dc, .int .i64 X.k0, .int .u8 X.k1, .bool X.k2, .bool X.k3, .int .i64 X.rw_, .int .i64 X.cl]) (T := 30) hs_41 rfl rfl (by kernel_rfl) (fun g_70 w_71 hs_72 => ?_)
                    have hs_72 : SH [] w w_71 [rowH 25 1 ao (out).length co (lcells out), allH (out.map (rowP 30)), rowH 30 9 ai (xs).length ci (xcells xs), pt g_34 #[.int .i64 X.at_, .int .i64 X.kd, .slice X.da ((X.bs.take 300).length) X.dc, .int .i64 X.k0, .int .u8 X.k1, .bool X.k2, .bool X.k3, .int .i64 X.rw_, .int .i64 X.cl] 30, pt g_70 #[.int .i64 X.at_, .int .i64 X.kd, .slice X.da ((X.bs.take 300).length) X.dc, .int .i64 X.k0, .int .u8 X.k1, .bool X.k2, .bool X.k3, .int .i64 X.rw_, .int .i64 X.cl] 30] := hs_72
                    refine SL.appR (z := .agg #[.int .i64 0, .int .i64 0, .slice none 0 0, .int .i64 0, .int .u8 0, .bool false, .bool false, .int .i64 0, .int .i64 0]) (size := 9) (bytes := 72) (el := 30) (m := 1) (news := [.int .i64 X.at_, .int .i64 X.kd, .slice X.da ((X.bs.take 300).length) X.dc, .int .i64 X.k0, .int .u8 X.k1, .bool X.k2, .bool X.k3, .int .i64 X.rw_, .int .i64 X.cl]) (i := 2) (xs' := xcells (xs ++ [(⟨X.at_, X.kd, X.da, X.dc, X.k0, X.k1, X.k2, X.k3, X.rw_, X.cl, (X.bs.take 300)⟩ : Itm)])) (k' := (xs ++ [(⟨X.at_, X.kd, X.da, X.dc, X.k0, X.k1, X.k2, X.k3, X.rw_, X.cl, (X.bs.take 300)⟩ : Itm)]).length) (L' := [rowH 25 1 ao (out).length co (lcells out), allH (out.map (rowP 30)), pt g_34 #[.int .i64 X.at_, .int .i64 X.kd, .slice X.da ((X.bs.take 300).length) X.dc, .int .i64 X.k0, .int .u8 X.k1, .bool X.k2, .bool X.k3, .int .i64 X.rw_, .int .i64 X.cl] 30, pt g_70 #[.int .i64 X.at_, .int .i64 X.kd, .slice X.da ((X.bs.take 300).length) X.dc, .int .i64 X.k0, .int .u8 X.k1, .bool X.k2, .bool X.k3, .int .i64 X.rw_, .int .i64 X.cl] 30]) hs_72 rfl rfl rfl (by kernel_rfl) (by kernel_rfl) (by kernel_rfl) (by kernel_rfl) (by kernel_rfl) (by kernel_rfl) rfl rfl (srcH (off := 0) (cs := [.int .i64 X.at_, .int .i64 X.kd, .slice X.da ((X.bs.take 300).length) X.dc, .int .i64 X.k0, .int .u8 X.k1, .bool X.k2, .bool X.k3, .int .i64 X.rw_, .int .i64 X.cl]) (el := 30) (by kernel_rfl) (hs_72.pt_at (i := 4) rfl) rfl rfl (List.all_eq_true.1 (by kernel_rfl))) (by (try simp only [List.length_append, List.length_cons, List.length_nil]); omega) (xcells_app xs ([(⟨X.at_, X.kd, X.da, X.dc, X.k0, X.k1, X.k2, X.k3, X.rw_, X.cl, (X.bs.take 300)⟩ : Itm)])) (by first | (simp; done) | (simp only [List.length_append, List.length_cons, List.length_nil] <;> omega)) rfl (fun a_73 c_74 w_75 hs_76 => ?_)
                    have hs_76 : SH [] w w_75 [rowH 25 1 ao (out).length co (lcells out), allH (out.map (rowP 30)), pt g_34 #[.int .i64 X.at_, .int .i64 X.kd, .slice X.da ((X.bs.take 300).length) X.dc, .int .i64 X.k0, .int .u8 X.k1, .bool X.k2, .bool X.k3, .int .i64 X.rw_, .int .i64 X.cl] 30, pt g_70 #[.int .i64 X.at_, .int .i64 X.kd, .slice X.da ((X.bs.take 300).length) X.dc, .int .i64 X.k0, .int .u8 X.k1, .bool X.k2, .bool X.k3, .int .i64 X.rw_, .int .i64 X.cl] 30, rowH 30 9 a_73 (xs ++ [(⟨X.at_, X.kd, X.da, X.dc, X.k0, X.k1, X.k2, X.k3, X.rw_, X.cl, (X.bs.take 300)⟩ : Itm)]).length c_74 (xcells (xs ++ [(⟨X.at_, X.kd, X.da, X.dc, X.k0, X.k1, X.k2, X.k3, X.rw_, X.cl, (X.bs.take 300)⟩ : Itm)]))] := hs_76
                    refine SL.v (.slice a_73 ((xs ++ [(⟨X.at_, X.kd, X.da, X.dc, X.k0, X.k1, X.k2, X.k3, X.rw_, X.cl, (X.bs.take 300)⟩ : Itm)]).length) c_74) ?_
                    refine SL.nil ?_
                    refine CW.region ?_
                    refine SL.v (.int .i64 ((j : Nat) : Int)) ?_
                    refine SL.val (v := .int .i64 ((j + 1 : Nat) : Int)) (w' := w_75) rfl rfl (by have hw : IntKind.i64.wrap (((j : Nat) : Int) + 1) = ((j + 1 : Nat) : Int) := (IntWalk.i64_in _ (by omega)).trans (by omega); exact run_eqv (by kernel_rfl) (congrArg (fun z => Value.int .i64 z) hw)) ?_
                    refine SL.v (.int .i64 ((j + 1 : Nat) : Int)) ?_
                    refine SL.nil ?_
                    have hx9_ : xs ++ [(⟨X.at_, X.kd, X.da, X.dc, X.k0, X.k1, X.k2, X.k3, X.rw_, X.cl, (X.bs.take 300)⟩ : Itm)] = (E.xs.take (j + 1)).map fewX := by
                      have hf_ : fewS X = false := by unfold fewS; rw [hb_42, hb_43, hb_56, hb_57]; rfl
                      rw [few_takex (by omega), List.map_append, ← hxs, ← hX]
                      congr 1
                      show [_] = [fewX X]
                      unfold fewX
                      rw [hf_, if_pos (by omega)]
                      rfl
                    exact ⟨_, ⟨j + 1, xs ++ [(⟨X.at_, X.kd, X.da, X.dc, X.k0, X.k1, X.k2, X.k3, X.rw_, X.cl, (X.bs.take 300)⟩ : Itm)], a_73, c_74, rfl, (hs_76.pick [0, 0, 2] rfl), (by omega), (by omega), hx9_, (by kernel_rfl), (by kernel_rfl), (by kernel_rfl), (by kernel_rfl), (by kernel_rfl), (by kernel_rfl), (by kernel_rfl), (by kernel_rfl), (by kernel_rfl)⟩, by omega⟩
                · try rw [hb_56]
                  have hqhb_56 := of_decide_eq_false hb_56
                  refine SL.no false ?_
                  refine SL.no false ?_
                  refine SL.no false ?_
                  refine SL.go ?_
                  refine SL.v (.bool false) ?_
                  refine SL.v (.bool false) ?_
                  refine SL.nil ?_
                  refine CW.cond_false (by kernel_rfl) ?_
                  refine CW.skip ?_
                  refine CW.region ?_
                  refine SL.v (.slice ai ((xs).length) ci) ?_
                  refine SL.load (g := g_34) (off := 0) (v := .agg #[.int .i64 X.at_, .int .i64 X.kd, .slice X.da ((X.bs.take 300).length) X.dc, .int .i64 X.k0, .int .u8 X.k1, .bool X.k2, .bool X.k3, .int .i64 X.rw_, .int .i64 X.cl]) rfl rfl rfl (by kernel_rfl) (hs_41.pt_at (i := 3) rfl) (by kernel_rfl) ?_
                  refine SL.newH (mk := fun g => .slice (some ⟨g, 0, none⟩) 1 1) (C := #[.int .i64 X.at_, .int .i64 X.kd, .slice X.da ((X.bs.take 300).length) X.dc, .int .i64 X.k0, .int .u8 X.k1, .bool X.k2, .bool X.k3, .int .i64 X.rw_, .int .i64 X.cl]) (T := 30) hs_41 rfl rfl (by kernel_rfl) (fun g_78 w_79 hs_80 => ?_)
                  have hs_80 : SH [] w w_79 [rowH 25 1 ao (out).length co (lcells out), allH (out.map (rowP 30)), rowH 30 9 ai (xs).length ci (xcells xs), pt g_34 #[.int .i64 X.at_, .int .i64 X.kd, .slice X.da ((X.bs.take 300).length) X.dc, .int .i64 X.k0, .int .u8 X.k1, .bool X.k2, .bool X.k3, .int .i64 X.rw_, .int .i64 X.cl] 30, pt g_78 #[.int .i64 X.at_, .int .i64 X.kd, .slice X.da ((X.bs.take 300).length) X.dc, .int .i64 X.k0, .int .u8 X.k1, .bool X.k2, .bool X.k3, .int .i64 X.rw_, .int .i64 X.cl] 30] := hs_80
                  refine SL.appR (z := .agg #[.int .i64 0, .int .i64 0, .slice none 0 0, .int .i64 0, .int .u8 0, .bool false, .bool false, .int .i64 0, .int .i64 0]) (size := 9) (bytes := 72) (el := 30) (m := 1) (news := [.int .i64 X.at_, .int .i64 X.kd, .slice X.da ((X.bs.take 300).length) X.dc, .int .i64 X.k0, .int .u8 X.k1, .bool X.k2, .bool X.k3, .int .i64 X.rw_, .int .i64 X.cl]) (i := 2) (xs' := xcells (xs ++ [(⟨X.at_, X.kd, X.da, X.dc, X.k0, X.k1, X.k2, X.k3, X.rw_, X.cl, (X.bs.take 300)⟩ : Itm)])) (k' := (xs ++ [(⟨X.at_, X.kd, X.da, X.dc, X.k0, X.k1, X.k2, X.k3, X.rw_, X.cl, (X.bs.take 300)⟩ : Itm)]).length) (L' := [rowH 25 1 ao (out).length co (lcells out), allH (out.map (rowP 30)), pt g_34 #[.int .i64 X.at_, .int .i64 X.kd, .slice X.da ((X.bs.take 300).length) X.dc, .int .i64 X.k0, .int .u8 X.k1, .bool X.k2, .bool X.k3, .int .i64 X.rw_, .int .i64 X.cl] 30, pt g_78 #[.int .i64 X.at_, .int .i64 X.kd, .slice X.da ((X.bs.take 300).length) X.dc, .int .i64 X.k0, .int .u8 X.k1, .bool X.k2, .bool X.k3, .int .i64 X.rw_, .int .i64 X.cl] 30]) hs_80 rfl rfl rfl (by kernel_rfl) (by kernel_rfl) (by kernel_rfl) (by kernel_rfl) (by kernel_rfl) (by kernel_rfl) rfl rfl (srcH (off := 0) (cs := [.int .i64 X.at_, .int .i64 X.kd, .slice X.da ((X.bs.take 300).length) X.dc, .int .i64 X.k0, .int .u8 X.k1, .bool X.k2, .bool X.k3, .int .i64 X.rw_, .int .i64 X.cl]) (el := 30) (by kernel_rfl) (hs_80.pt_at (i := 4) rfl) rfl rfl (List.all_eq_true.1 (by kernel_rfl))) (by (try simp only [List.length_append, List.length_cons, List.length_nil]); omega) (xcells_app xs ([(⟨X.at_, X.kd, X.da, X.dc, X.k0, X.k1, X.k2, X.k3, X.rw_, X.cl, (X.bs.take 300)⟩ : Itm)])) (by first | (simp; done) | (simp only [List.length_append, List.length_cons, List.length_nil] <;> omega)) rfl (fun a_81 c_82 w_83 hs_84 => ?_)
                  have hs_84 : SH [] w w_83 [rowH 25 1 ao (out).length co (lcells out), allH (out.map (rowP 30)), pt g_34 #[.int .i64 X.at_, .int .i64 X.kd, .slice X.da ((X.bs.take 300).length) X.dc, .int .i64 X.k0, .int .u8 X.k1, .bool X.k2, .bool X.k3, .int .i64 X.rw_, .int .i64 X.cl] 30, pt g_78 #[.int .i64 X.at_, .int .i64 X.kd, .slice X.da ((X.bs.take 300).length) X.dc, .int .i64 X.k0, .int .u8 X.k1, .bool X.k2, .bool X.k3, .int .i64 X.rw_, .int .i64 X.cl] 30, rowH 30 9 a_81 (xs ++ [(⟨X.at_, X.kd, X.da, X.dc, X.k0, X.k1, X.k2, X.k3, X.rw_, X.cl, (X.bs.take 300)⟩ : Itm)]).length c_82 (xcells (xs ++ [(⟨X.at_, X.kd, X.da, X.dc, X.k0, X.k1, X.k2, X.k3, X.rw_, X.cl, (X.bs.take 300)⟩ : Itm)]))] := hs_84
                  refine SL.v (.slice a_81 ((xs ++ [(⟨X.at_, X.kd, X.da, X.dc, X.k0, X.k1, X.k2, X.k3, X.rw_, X.cl, (X.bs.take 300)⟩ : Itm)]).length) c_82) ?_
                  refine SL.nil ?_
                  refine CW.region ?_
                  refine SL.v (.int .i64 ((j : Nat) : Int)) ?_
                  refine SL.val (v := .int .i64 ((j + 1 : Nat) : Int)) (w' := w_83) rfl rfl (by have hw : IntKind.i64.wrap (((j : Nat) : Int) + 1) = ((j + 1 : Nat) : Int) := (IntWalk.i64_in _ (by omega)).trans (by omega); exact run_eqv (by kernel_rfl) (congrArg (fun z => Value.int .i64 z) hw)) ?_
                  refine SL.v (.int .i64 ((j + 1 : Nat) : Int)) ?_
                  refine SL.nil ?_
                  have hx9_ : xs ++ [(⟨X.at_, X.kd, X.da, X.dc, X.k0, X.k1, X.k2, X.k3, X.rw_, X.cl, (X.bs.take 300)⟩ : Itm)] = (E.xs.take (j + 1)).map fewX := by
                    have hf_ : fewS X = false := by unfold fewS; rw [hb_42, hb_43, hb_56]; rfl
                    rw [few_takex (by omega), List.map_append, ← hxs, ← hX]
                    congr 1
                    show [_] = [fewX X]
                    unfold fewX
                    rw [hf_, if_pos (by omega)]
                    rfl
                  exact ⟨_, ⟨j + 1, xs ++ [(⟨X.at_, X.kd, X.da, X.dc, X.k0, X.k1, X.k2, X.k3, X.rw_, X.cl, (X.bs.take 300)⟩ : Itm)], a_81, c_82, rfl, (hs_84.pick [0, 0, 2] rfl), (by omega), (by omega), hx9_, (by kernel_rfl), (by kernel_rfl), (by kernel_rfl), (by kernel_rfl), (by kernel_rfl), (by kernel_rfl), (by kernel_rfl), (by kernel_rfl), (by kernel_rfl)⟩, by omega⟩
            · try rw [hb_42]
              have hqhb_42 := of_decide_eq_false hb_42
              refine SL.no false ?_
              refine SL.no false ?_
              refine SL.no false ?_
              refine SL.v (.bool false) ?_
              refine SL.v (.bool false) ?_
              refine SL.go ?_
              refine SL.v (.pointer (some ⟨g_34, 8, none⟩)) ?_
              refine SL.go ?_
              refine SL.load (g := g_34) (off := 8) (v := .int .i64 X.cl) rfl rfl rfl (by kernel_rfl) (hs_41.pt_at (i := 3) rfl) (by kernel_rfl) ?_
              refine SL.go ?_
              refine SL.v (.bool (decide (90 < X.cl))) ?_
              refine SL.go ?_
              refine SL.v (.bool (decide (90 < X.cl))) ?_
              rcases Bool.eq_false_or_eq_true (decide (90 < X.cl)) with hb_86 | hb_86
              · try rw [hb_86]
                have hqhb_86 := of_decide_eq_true hb_86
                refine SL.go ?_
                refine SL.v (.pointer (some ⟨g_34, 8, none⟩)) ?_
                refine SL.go ?_
                refine SL.load (g := g_34) (off := 8) (v := .int .i64 X.cl) rfl rfl rfl (by kernel_rfl) (hs_41.pt_at (i := 3) rfl) (by kernel_rfl) ?_
                refine SL.go ?_
                refine SL.v (.bool (decide (X.cl ≤ 500))) ?_
                refine SL.go ?_
                refine SL.v (.bool (decide (X.cl ≤ 500))) ?_
                refine SL.v (.bool (decide (X.cl ≤ 500))) ?_
                refine SL.nil ?_
                rcases Bool.eq_false_or_eq_true (decide (X.cl ≤ 500)) with hb_87 | hb_87
                · try rw [hb_87]
                  have hqhb_87 := of_decide_eq_true hb_87
                  refine CW.cond_true (by kernel_rfl) ?_
                  refine CW.region ?_
                  refine SL.v (.pointer (some ⟨g_34, 7, none⟩)) ?_
                  refine SL.storeH (i := 3) (g := g_34) (off := 7) (v := .int .i64 7) (L' := [rowH 25 1 ao (out).length co (lcells out), allH (out.map (rowP 30)), rowH 30 9 ai (xs).length ci (xcells xs), pt g_34 #[.int .i64 X.at_, .int .i64 X.kd, .slice X.da ((X.bs.take 300).length) X.dc, .int .i64 X.k0, .int .u8 X.k1, .bool X.k2, .bool X.k3, .int .i64 7, .int .i64 X.cl] 30]) hs_41 rfl rfl rfl (by kernel_rfl) (by kernel_rfl) rfl (by kernel_rfl) (by kernel_rfl) rfl (by kernel_rfl) rfl (fun w_88 hs_89 => ?_)
                  refine SL.v (.pointer (some ⟨g_34, 8, none⟩)) ?_
                  refine SL.storeH (i := 3) (g := g_34) (off := 8) (v := .int .i64 9) (L' := [rowH 25 1 ao (out).length co (lcells out), allH (out.map (rowP 30)), rowH 30 9 ai (xs).length ci (xcells xs), pt g_34 #[.int .i64 X.at_, .int .i64 X.kd, .slice X.da ((X.bs.take 300).length) X.dc, .int .i64 X.k0, .int .u8 X.k1, .bool X.k2, .bool X.k3, .int .i64 7, .int .i64 9] 30]) hs_89 rfl rfl rfl (by kernel_rfl) (by kernel_rfl) rfl (by kernel_rfl) (by kernel_rfl) rfl (by kernel_rfl) rfl (fun w_90 hs_91 => ?_)
                  refine SL.nil ?_
                  refine CW.region ?_
                  refine SL.v (.slice ai ((xs).length) ci) ?_
                  refine SL.load (g := g_34) (off := 0) (v := .agg #[.int .i64 X.at_, .int .i64 X.kd, .slice X.da ((X.bs.take 300).length) X.dc, .int .i64 X.k0, .int .u8 X.k1, .bool X.k2, .bool X.k3, .int .i64 7, .int .i64 9]) rfl rfl rfl (by kernel_rfl) (hs_91.pt_at (i := 3) rfl) (by kernel_rfl) ?_
                  refine SL.newH (mk := fun g => .slice (some ⟨g, 0, none⟩) 1 1) (C := #[.int .i64 X.at_, .int .i64 X.kd, .slice X.da ((X.bs.take 300).length) X.dc, .int .i64 X.k0, .int .u8 X.k1, .bool X.k2, .bool X.k3, .int .i64 7, .int .i64 9]) (T := 30) hs_91 rfl rfl (by kernel_rfl) (fun g_92 w_93 hs_94 => ?_)
                  have hs_94 : SH [] w w_93 [rowH 25 1 ao (out).length co (lcells out), allH (out.map (rowP 30)), rowH 30 9 ai (xs).length ci (xcells xs), pt g_34 #[.int .i64 X.at_, .int .i64 X.kd, .slice X.da ((X.bs.take 300).length) X.dc, .int .i64 X.k0, .int .u8 X.k1, .bool X.k2, .bool X.k3, .int .i64 7, .int .i64 9] 30, pt g_92 #[.int .i64 X.at_, .int .i64 X.kd, .slice X.da ((X.bs.take 300).length) X.dc, .int .i64 X.k0, .int .u8 X.k1, .bool X.k2, .bool X.k3, .int .i64 7, .int .i64 9] 30] := hs_94
                  refine SL.appR (z := .agg #[.int .i64 0, .int .i64 0, .slice none 0 0, .int .i64 0, .int .u8 0, .bool false, .bool false, .int .i64 0, .int .i64 0]) (size := 9) (bytes := 72) (el := 30) (m := 1) (news := [.int .i64 X.at_, .int .i64 X.kd, .slice X.da ((X.bs.take 300).length) X.dc, .int .i64 X.k0, .int .u8 X.k1, .bool X.k2, .bool X.k3, .int .i64 7, .int .i64 9]) (i := 2) (xs' := xcells (xs ++ [(⟨X.at_, X.kd, X.da, X.dc, X.k0, X.k1, X.k2, X.k3, 7, 9, (X.bs.take 300)⟩ : Itm)])) (k' := (xs ++ [(⟨X.at_, X.kd, X.da, X.dc, X.k0, X.k1, X.k2, X.k3, 7, 9, (X.bs.take 300)⟩ : Itm)]).length) (L' := [rowH 25 1 ao (out).length co (lcells out), allH (out.map (rowP 30)), pt g_34 #[.int .i64 X.at_, .int .i64 X.kd, .slice X.da ((X.bs.take 300).length) X.dc, .int .i64 X.k0, .int .u8 X.k1, .bool X.k2, .bool X.k3, .int .i64 7, .int .i64 9] 30, pt g_92 #[.int .i64 X.at_, .int .i64 X.kd, .slice X.da ((X.bs.take 300).length) X.dc, .int .i64 X.k0, .int .u8 X.k1, .bool X.k2, .bool X.k3, .int .i64 7, .int .i64 9] 30]) hs_94 rfl rfl rfl (by kernel_rfl) (by kernel_rfl) (by kernel_rfl) (by kernel_rfl) (by kernel_rfl) (by kernel_rfl) rfl rfl (srcH (off := 0) (cs := [.int .i64 X.at_, .int .i64 X.kd, .slice X.da ((X.bs.take 300).length) X.dc, .int .i64 X.k0, .int .u8 X.k1, .bool X.k2, .bool X.k3, .int .i64 7, .int .i64 9]) (el := 30) (by kernel_rfl) (hs_94.pt_at (i := 4) rfl) rfl rfl (List.all_eq_true.1 (by kernel_rfl))) (by (try simp only [List.length_append, List.length_cons, List.length_nil]); omega) (xcells_app xs ([(⟨X.at_, X.kd, X.da, X.dc, X.k0, X.k1, X.k2, X.k3, 7, 9, (X.bs.take 300)⟩ : Itm)])) (by first | (simp; done) | (simp only [List.length_append, List.length_cons, List.length_nil] <;> omega)) rfl (fun a_95 c_96 w_97 hs_98 => ?_)
                  have hs_98 : SH [] w w_97 [rowH 25 1 ao (out).length co (lcells out), allH (out.map (rowP 30)), pt g_34 #[.int .i64 X.at_, .int .i64 X.kd, .slice X.da ((X.bs.take 300).length) X.dc, .int .i64 X.k0, .int .u8 X.k1, .bool X.k2, .bool X.k3, .int .i64 7, .int .i64 9] 30, pt g_92 #[.int .i64 X.at_, .int .i64 X.kd, .slice X.da ((X.bs.take 300).length) X.dc, .int .i64 X.k0, .int .u8 X.k1, .bool X.k2, .bool X.k3, .int .i64 7, .int .i64 9] 30, rowH 30 9 a_95 (xs ++ [(⟨X.at_, X.kd, X.da, X.dc, X.k0, X.k1, X.k2, X.k3, 7, 9, (X.bs.take 300)⟩ : Itm)]).length c_96 (xcells (xs ++ [(⟨X.at_, X.kd, X.da, X.dc, X.k0, X.k1, X.k2, X.k3, 7, 9, (X.bs.take 300)⟩ : Itm)]))] := hs_98
                  refine SL.v (.slice a_95 ((xs ++ [(⟨X.at_, X.kd, X.da, X.dc, X.k0, X.k1, X.k2, X.k3, 7, 9, (X.bs.take 300)⟩ : Itm)]).length) c_96) ?_
                  refine SL.nil ?_
                  refine CW.region ?_
                  refine SL.v (.int .i64 ((j : Nat) : Int)) ?_
                  refine SL.val (v := .int .i64 ((j + 1 : Nat) : Int)) (w' := w_97) rfl rfl (by have hw : IntKind.i64.wrap (((j : Nat) : Int) + 1) = ((j + 1 : Nat) : Int) := (IntWalk.i64_in _ (by omega)).trans (by omega); exact run_eqv (by kernel_rfl) (congrArg (fun z => Value.int .i64 z) hw)) ?_
                  refine SL.v (.int .i64 ((j + 1 : Nat) : Int)) ?_
                  refine SL.nil ?_
                  have hx9_ : xs ++ [(⟨X.at_, X.kd, X.da, X.dc, X.k0, X.k1, X.k2, X.k3, 7, 9, (X.bs.take 300)⟩ : Itm)] = (E.xs.take (j + 1)).map fewX := by
                    have hf_ : fewS X = true := by unfold fewS; rw [hb_42, hb_86, hb_87]; rfl
                    rw [few_takex (by omega), List.map_append, ← hxs, ← hX]
                    congr 1
                    show [_] = [fewX X]
                    unfold fewX
                    rw [hf_, if_pos (by omega)]
                    rfl
                  exact ⟨_, ⟨j + 1, xs ++ [(⟨X.at_, X.kd, X.da, X.dc, X.k0, X.k1, X.k2, X.k3, 7, 9, (X.bs.take 300)⟩ : Itm)], a_95, c_96, rfl, (hs_98.pick [0, 0, 2] rfl), (by omega), (by omega), hx9_, (by kernel_rfl), (by kernel_rfl), (by kernel_rfl), (by kernel_rfl), (by kernel_rfl), (by kernel_rfl), (by kernel_rfl), (by kernel_rfl), (by kernel_rfl)⟩, by omega⟩
                · try rw [hb_87]
                  have hqhb_87 := of_decide_eq_false hb_87
                  refine CW.cond_false (by kernel_rfl) ?_
                  refine CW.skip ?_
                  refine CW.region ?_
                  refine SL.v (.slice ai ((xs).length) ci) ?_
                  refine SL.load (g := g_34) (off := 0) (v := .agg #[.int .i64 X.at_, .int .i64 X.kd, .slice X.da ((X.bs.take 300).length) X.dc, .int .i64 X.k0, .int .u8 X.k1, .bool X.k2, .bool X.k3, .int .i64 X.rw_, .int .i64 X.cl]) rfl rfl rfl (by kernel_rfl) (hs_41.pt_at (i := 3) rfl) (by kernel_rfl) ?_
                  refine SL.newH (mk := fun g => .slice (some ⟨g, 0, none⟩) 1 1) (C := #[.int .i64 X.at_, .int .i64 X.kd, .slice X.da ((X.bs.take 300).length) X.dc, .int .i64 X.k0, .int .u8 X.k1, .bool X.k2, .bool X.k3, .int .i64 X.rw_, .int .i64 X.cl]) (T := 30) hs_41 rfl rfl (by kernel_rfl) (fun g_100 w_101 hs_102 => ?_)
                  have hs_102 : SH [] w w_101 [rowH 25 1 ao (out).length co (lcells out), allH (out.map (rowP 30)), rowH 30 9 ai (xs).length ci (xcells xs), pt g_34 #[.int .i64 X.at_, .int .i64 X.kd, .slice X.da ((X.bs.take 300).length) X.dc, .int .i64 X.k0, .int .u8 X.k1, .bool X.k2, .bool X.k3, .int .i64 X.rw_, .int .i64 X.cl] 30, pt g_100 #[.int .i64 X.at_, .int .i64 X.kd, .slice X.da ((X.bs.take 300).length) X.dc, .int .i64 X.k0, .int .u8 X.k1, .bool X.k2, .bool X.k3, .int .i64 X.rw_, .int .i64 X.cl] 30] := hs_102
                  refine SL.appR (z := .agg #[.int .i64 0, .int .i64 0, .slice none 0 0, .int .i64 0, .int .u8 0, .bool false, .bool false, .int .i64 0, .int .i64 0]) (size := 9) (bytes := 72) (el := 30) (m := 1) (news := [.int .i64 X.at_, .int .i64 X.kd, .slice X.da ((X.bs.take 300).length) X.dc, .int .i64 X.k0, .int .u8 X.k1, .bool X.k2, .bool X.k3, .int .i64 X.rw_, .int .i64 X.cl]) (i := 2) (xs' := xcells (xs ++ [(⟨X.at_, X.kd, X.da, X.dc, X.k0, X.k1, X.k2, X.k3, X.rw_, X.cl, (X.bs.take 300)⟩ : Itm)])) (k' := (xs ++ [(⟨X.at_, X.kd, X.da, X.dc, X.k0, X.k1, X.k2, X.k3, X.rw_, X.cl, (X.bs.take 300)⟩ : Itm)]).length) (L' := [rowH 25 1 ao (out).length co (lcells out), allH (out.map (rowP 30)), pt g_34 #[.int .i64 X.at_, .int .i64 X.kd, .slice X.da ((X.bs.take 300).length) X.dc, .int .i64 X.k0, .int .u8 X.k1, .bool X.k2, .bool X.k3, .int .i64 X.rw_, .int .i64 X.cl] 30, pt g_100 #[.int .i64 X.at_, .int .i64 X.kd, .slice X.da ((X.bs.take 300).length) X.dc, .int .i64 X.k0, .int .u8 X.k1, .bool X.k2, .bool X.k3, .int .i64 X.rw_, .int .i64 X.cl] 30]) hs_102 rfl rfl rfl (by kernel_rfl) (by kernel_rfl) (by kernel_rfl) (by kernel_rfl) (by kernel_rfl) (by kernel_rfl) rfl rfl (srcH (off := 0) (cs := [.int .i64 X.at_, .int .i64 X.kd, .slice X.da ((X.bs.take 300).length) X.dc, .int .i64 X.k0, .int .u8 X.k1, .bool X.k2, .bool X.k3, .int .i64 X.rw_, .int .i64 X.cl]) (el := 30) (by kernel_rfl) (hs_102.pt_at (i := 4) rfl) rfl rfl (List.all_eq_true.1 (by kernel_rfl))) (by (try simp only [List.length_append, List.length_cons, List.length_nil]); omega) (xcells_app xs ([(⟨X.at_, X.kd, X.da, X.dc, X.k0, X.k1, X.k2, X.k3, X.rw_, X.cl, (X.bs.take 300)⟩ : Itm)])) (by first | (simp; done) | (simp only [List.length_append, List.length_cons, List.length_nil] <;> omega)) rfl (fun a_103 c_104 w_105 hs_106 => ?_)
                  have hs_106 : SH [] w w_105 [rowH 25 1 ao (out).length co (lcells out), allH (out.map (rowP 30)), pt g_34 #[.int .i64 X.at_, .int .i64 X.kd, .slice X.da ((X.bs.take 300).length) X.dc, .int .i64 X.k0, .int .u8 X.k1, .bool X.k2, .bool X.k3, .int .i64 X.rw_, .int .i64 X.cl] 30, pt g_100 #[.int .i64 X.at_, .int .i64 X.kd, .slice X.da ((X.bs.take 300).length) X.dc, .int .i64 X.k0, .int .u8 X.k1, .bool X.k2, .bool X.k3, .int .i64 X.rw_, .int .i64 X.cl] 30, rowH 30 9 a_103 (xs ++ [(⟨X.at_, X.kd, X.da, X.dc, X.k0, X.k1, X.k2, X.k3, X.rw_, X.cl, (X.bs.take 300)⟩ : Itm)]).length c_104 (xcells (xs ++ [(⟨X.at_, X.kd, X.da, X.dc, X.k0, X.k1, X.k2, X.k3, X.rw_, X.cl, (X.bs.take 300)⟩ : Itm)]))] := hs_106
                  refine SL.v (.slice a_103 ((xs ++ [(⟨X.at_, X.kd, X.da, X.dc, X.k0, X.k1, X.k2, X.k3, X.rw_, X.cl, (X.bs.take 300)⟩ : Itm)]).length) c_104) ?_
                  refine SL.nil ?_
                  refine CW.region ?_
                  refine SL.v (.int .i64 ((j : Nat) : Int)) ?_
                  refine SL.val (v := .int .i64 ((j + 1 : Nat) : Int)) (w' := w_105) rfl rfl (by have hw : IntKind.i64.wrap (((j : Nat) : Int) + 1) = ((j + 1 : Nat) : Int) := (IntWalk.i64_in _ (by omega)).trans (by omega); exact run_eqv (by kernel_rfl) (congrArg (fun z => Value.int .i64 z) hw)) ?_
                  refine SL.v (.int .i64 ((j + 1 : Nat) : Int)) ?_
                  refine SL.nil ?_
                  have hx9_ : xs ++ [(⟨X.at_, X.kd, X.da, X.dc, X.k0, X.k1, X.k2, X.k3, X.rw_, X.cl, (X.bs.take 300)⟩ : Itm)] = (E.xs.take (j + 1)).map fewX := by
                    have hf_ : fewS X = false := by unfold fewS; rw [hb_42, hb_86, hb_87]; rfl
                    rw [few_takex (by omega), List.map_append, ← hxs, ← hX]
                    congr 1
                    show [_] = [fewX X]
                    unfold fewX
                    rw [hf_, if_pos (by omega)]
                    rfl
                  exact ⟨_, ⟨j + 1, xs ++ [(⟨X.at_, X.kd, X.da, X.dc, X.k0, X.k1, X.k2, X.k3, X.rw_, X.cl, (X.bs.take 300)⟩ : Itm)], a_103, c_104, rfl, (hs_106.pick [0, 0, 2] rfl), (by omega), (by omega), hx9_, (by kernel_rfl), (by kernel_rfl), (by kernel_rfl), (by kernel_rfl), (by kernel_rfl), (by kernel_rfl), (by kernel_rfl), (by kernel_rfl), (by kernel_rfl)⟩, by omega⟩
              · try rw [hb_86]
                have hqhb_86 := of_decide_eq_false hb_86
                refine SL.no false ?_
                refine SL.no false ?_
                refine SL.no false ?_
                refine SL.go ?_
                refine SL.v (.bool false) ?_
                refine SL.v (.bool false) ?_
                refine SL.nil ?_
                refine CW.cond_false (by kernel_rfl) ?_
                refine CW.skip ?_
                refine CW.region ?_
                refine SL.v (.slice ai ((xs).length) ci) ?_
                refine SL.load (g := g_34) (off := 0) (v := .agg #[.int .i64 X.at_, .int .i64 X.kd, .slice X.da ((X.bs.take 300).length) X.dc, .int .i64 X.k0, .int .u8 X.k1, .bool X.k2, .bool X.k3, .int .i64 X.rw_, .int .i64 X.cl]) rfl rfl rfl (by kernel_rfl) (hs_41.pt_at (i := 3) rfl) (by kernel_rfl) ?_
                refine SL.newH (mk := fun g => .slice (some ⟨g, 0, none⟩) 1 1) (C := #[.int .i64 X.at_, .int .i64 X.kd, .slice X.da ((X.bs.take 300).length) X.dc, .int .i64 X.k0, .int .u8 X.k1, .bool X.k2, .bool X.k3, .int .i64 X.rw_, .int .i64 X.cl]) (T := 30) hs_41 rfl rfl (by kernel_rfl) (fun g_108 w_109 hs_110 => ?_)
                have hs_110 : SH [] w w_109 [rowH 25 1 ao (out).length co (lcells out), allH (out.map (rowP 30)), rowH 30 9 ai (xs).length ci (xcells xs), pt g_34 #[.int .i64 X.at_, .int .i64 X.kd, .slice X.da ((X.bs.take 300).length) X.dc, .int .i64 X.k0, .int .u8 X.k1, .bool X.k2, .bool X.k3, .int .i64 X.rw_, .int .i64 X.cl] 30, pt g_108 #[.int .i64 X.at_, .int .i64 X.kd, .slice X.da ((X.bs.take 300).length) X.dc, .int .i64 X.k0, .int .u8 X.k1, .bool X.k2, .bool X.k3, .int .i64 X.rw_, .int .i64 X.cl] 30] := hs_110
                refine SL.appR (z := .agg #[.int .i64 0, .int .i64 0, .slice none 0 0, .int .i64 0, .int .u8 0, .bool false, .bool false, .int .i64 0, .int .i64 0]) (size := 9) (bytes := 72) (el := 30) (m := 1) (news := [.int .i64 X.at_, .int .i64 X.kd, .slice X.da ((X.bs.take 300).length) X.dc, .int .i64 X.k0, .int .u8 X.k1, .bool X.k2, .bool X.k3, .int .i64 X.rw_, .int .i64 X.cl]) (i := 2) (xs' := xcells (xs ++ [(⟨X.at_, X.kd, X.da, X.dc, X.k0, X.k1, X.k2, X.k3, X.rw_, X.cl, (X.bs.take 300)⟩ : Itm)])) (k' := (xs ++ [(⟨X.at_, X.kd, X.da, X.dc, X.k0, X.k1, X.k2, X.k3, X.rw_, X.cl, (X.bs.take 300)⟩ : Itm)]).length) (L' := [rowH 25 1 ao (out).length co (lcells out), allH (out.map (rowP 30)), pt g_34 #[.int .i64 X.at_, .int .i64 X.kd, .slice X.da ((X.bs.take 300).length) X.dc, .int .i64 X.k0, .int .u8 X.k1, .bool X.k2, .bool X.k3, .int .i64 X.rw_, .int .i64 X.cl] 30, pt g_108 #[.int .i64 X.at_, .int .i64 X.kd, .slice X.da ((X.bs.take 300).length) X.dc, .int .i64 X.k0, .int .u8 X.k1, .bool X.k2, .bool X.k3, .int .i64 X.rw_, .int .i64 X.cl] 30]) hs_110 rfl rfl rfl (by kernel_rfl) (by kernel_rfl) (by kernel_rfl) (by kernel_rfl) (by kernel_rfl) (by kernel_rfl) rfl rfl (srcH (off := 0) (cs := [.int .i64 X.at_, .int .i64 X.kd, .slice X.da ((X.bs.take 300).length) X.dc, .int .i64 X.k0, .int .u8 X.k1, .bool X.k2, .bool X.k3, .int .i64 X.rw_, .int .i64 X.cl]) (el := 30) (by kernel_rfl) (hs_110.pt_at (i := 4) rfl) rfl rfl (List.all_eq_true.1 (by kernel_rfl))) (by (try simp only [List.length_append, List.length_cons, List.length_nil]); omega) (xcells_app xs ([(⟨X.at_, X.kd, X.da, X.dc, X.k0, X.k1, X.k2, X.k3, X.rw_, X.cl, (X.bs.take 300)⟩ : Itm)])) (by first | (simp; done) | (simp only [List.length_append, List.length_cons, List.length_nil] <;> omega)) rfl (fun a_111 c_112 w_113 hs_114 => ?_)
                have hs_114 : SH [] w w_113 [rowH 25 1 ao (out).length co (lcells out), allH (out.map (rowP 30)), pt g_34 #[.int .i64 X.at_, .int .i64 X.kd, .slice X.da ((X.bs.take 300).length) X.dc, .int .i64 X.k0, .int .u8 X.k1, .bool X.k2, .bool X.k3, .int .i64 X.rw_, .int .i64 X.cl] 30, pt g_108 #[.int .i64 X.at_, .int .i64 X.kd, .slice X.da ((X.bs.take 300).length) X.dc, .int .i64 X.k0, .int .u8 X.k1, .bool X.k2, .bool X.k3, .int .i64 X.rw_, .int .i64 X.cl] 30, rowH 30 9 a_111 (xs ++ [(⟨X.at_, X.kd, X.da, X.dc, X.k0, X.k1, X.k2, X.k3, X.rw_, X.cl, (X.bs.take 300)⟩ : Itm)]).length c_112 (xcells (xs ++ [(⟨X.at_, X.kd, X.da, X.dc, X.k0, X.k1, X.k2, X.k3, X.rw_, X.cl, (X.bs.take 300)⟩ : Itm)]))] := hs_114
                refine SL.v (.slice a_111 ((xs ++ [(⟨X.at_, X.kd, X.da, X.dc, X.k0, X.k1, X.k2, X.k3, X.rw_, X.cl, (X.bs.take 300)⟩ : Itm)]).length) c_112) ?_
                refine SL.nil ?_
                refine CW.region ?_
                refine SL.v (.int .i64 ((j : Nat) : Int)) ?_
                refine SL.val (v := .int .i64 ((j + 1 : Nat) : Int)) (w' := w_113) rfl rfl (by have hw : IntKind.i64.wrap (((j : Nat) : Int) + 1) = ((j + 1 : Nat) : Int) := (IntWalk.i64_in _ (by omega)).trans (by omega); exact run_eqv (by kernel_rfl) (congrArg (fun z => Value.int .i64 z) hw)) ?_
                refine SL.v (.int .i64 ((j + 1 : Nat) : Int)) ?_
                refine SL.nil ?_
                have hx9_ : xs ++ [(⟨X.at_, X.kd, X.da, X.dc, X.k0, X.k1, X.k2, X.k3, X.rw_, X.cl, (X.bs.take 300)⟩ : Itm)] = (E.xs.take (j + 1)).map fewX := by
                  have hf_ : fewS X = false := by unfold fewS; rw [hb_42, hb_86]; rfl
                  rw [few_takex (by omega), List.map_append, ← hxs, ← hX]
                  congr 1
                  show [_] = [fewX X]
                  unfold fewX
                  rw [hf_, if_pos (by omega)]
                  rfl
                exact ⟨_, ⟨j + 1, xs ++ [(⟨X.at_, X.kd, X.da, X.dc, X.k0, X.k1, X.k2, X.k3, X.rw_, X.cl, (X.bs.take 300)⟩ : Itm)], a_111, c_112, rfl, (hs_114.pick [0, 0, 2] rfl), (by omega), (by omega), hx9_, (by kernel_rfl), (by kernel_rfl), (by kernel_rfl), (by kernel_rfl), (by kernel_rfl), (by kernel_rfl), (by kernel_rfl), (by kernel_rfl), (by kernel_rfl)⟩, by omega⟩
          · try rw [hb_39]
            have hqhb_39 := of_decide_eq_false hb_39
            have hXc_ := (hXd (by omega) (by omega)).2
            have hXd := (hXd (by omega) (by omega)).1
            refine CW.cond_false (by kernel_rfl) ?_
            refine CW.skip ?_
            refine CW.seq ?_
            refine CW.seq ?_
            refine CW.region ?_
            refine SL.v (.pointer (some ⟨g_34, 7, none⟩)) ?_
            refine SL.load (g := g_34) (off := 7) (v := .int .i64 X.rw_) rfl rfl rfl (by kernel_rfl) (hs_38.pt_at (i := 3) rfl) (by kernel_rfl) ?_
            refine SL.v (.bool (decide (40 < X.rw_))) ?_
            refine SL.v (.bool (decide (40 < X.rw_))) ?_
            rcases Bool.eq_false_or_eq_true (decide (40 < X.rw_)) with hb_116 | hb_116
            · try rw [hb_116]
              have hqhb_116 := of_decide_eq_true hb_116
              refine SL.go ?_
              refine SL.v (.pointer (some ⟨g_34, 7, none⟩)) ?_
              refine SL.go ?_
              refine SL.load (g := g_34) (off := 7) (v := .int .i64 X.rw_) rfl rfl rfl (by kernel_rfl) (hs_38.pt_at (i := 3) rfl) (by kernel_rfl) ?_
              refine SL.go ?_
              refine SL.v (.bool (decide (X.rw_ ≤ 500))) ?_
              refine SL.v (.bool (decide (X.rw_ ≤ 500))) ?_
              refine SL.v (.bool (decide (X.rw_ ≤ 500))) ?_
              rcases Bool.eq_false_or_eq_true (decide (X.rw_ ≤ 500)) with hb_117 | hb_117
              · try rw [hb_117]
                have hqhb_117 := of_decide_eq_true hb_117
                refine SL.no true ?_
                refine SL.no true ?_
                refine SL.no true ?_
                refine SL.no true ?_
                refine SL.un ?_
                refine SL.un ?_
                refine SL.un ?_
                refine SL.no true ?_
                refine SL.v (.bool true) ?_
                refine SL.nil ?_
                refine CW.cond_true (by kernel_rfl) ?_
                refine CW.region ?_
                refine SL.v (.pointer (some ⟨g_34, 7, none⟩)) ?_
                refine SL.storeH (i := 3) (g := g_34) (off := 7) (v := .int .i64 7) (L' := [rowH 25 1 ao (out).length co (lcells out), allH (out.map (rowP 30)), rowH 30 9 ai (xs).length ci (xcells xs), pt g_34 #[.int .i64 X.at_, .int .i64 X.kd, .slice X.da X.bs.length X.dc, .int .i64 X.k0, .int .u8 X.k1, .bool X.k2, .bool X.k3, .int .i64 7, .int .i64 X.cl] 30]) hs_38 rfl rfl rfl (by kernel_rfl) (by kernel_rfl) rfl (by kernel_rfl) (by kernel_rfl) rfl (by kernel_rfl) rfl (fun w_118 hs_119 => ?_)
                refine SL.v (.pointer (some ⟨g_34, 8, none⟩)) ?_
                refine SL.storeH (i := 3) (g := g_34) (off := 8) (v := .int .i64 9) (L' := [rowH 25 1 ao (out).length co (lcells out), allH (out.map (rowP 30)), rowH 30 9 ai (xs).length ci (xcells xs), pt g_34 #[.int .i64 X.at_, .int .i64 X.kd, .slice X.da X.bs.length X.dc, .int .i64 X.k0, .int .u8 X.k1, .bool X.k2, .bool X.k3, .int .i64 7, .int .i64 9] 30]) hs_119 rfl rfl rfl (by kernel_rfl) (by kernel_rfl) rfl (by kernel_rfl) (by kernel_rfl) rfl (by kernel_rfl) rfl (fun w_120 hs_121 => ?_)
                refine SL.nil ?_
                refine CW.region ?_
                refine SL.v (.slice ai ((xs).length) ci) ?_
                refine SL.load (g := g_34) (off := 0) (v := .agg #[.int .i64 X.at_, .int .i64 X.kd, .slice X.da X.bs.length X.dc, .int .i64 X.k0, .int .u8 X.k1, .bool X.k2, .bool X.k3, .int .i64 7, .int .i64 9]) rfl rfl rfl (by kernel_rfl) (hs_121.pt_at (i := 3) rfl) (by kernel_rfl) ?_
                refine SL.newH (mk := fun g => .slice (some ⟨g, 0, none⟩) 1 1) (C := #[.int .i64 X.at_, .int .i64 X.kd, .slice X.da X.bs.length X.dc, .int .i64 X.k0, .int .u8 X.k1, .bool X.k2, .bool X.k3, .int .i64 7, .int .i64 9]) (T := 30) hs_121 rfl rfl (by kernel_rfl) (fun g_122 w_123 hs_124 => ?_)
                have hs_124 : SH [] w w_123 [rowH 25 1 ao (out).length co (lcells out), allH (out.map (rowP 30)), rowH 30 9 ai (xs).length ci (xcells xs), pt g_34 #[.int .i64 X.at_, .int .i64 X.kd, .slice X.da X.bs.length X.dc, .int .i64 X.k0, .int .u8 X.k1, .bool X.k2, .bool X.k3, .int .i64 7, .int .i64 9] 30, pt g_122 #[.int .i64 X.at_, .int .i64 X.kd, .slice X.da X.bs.length X.dc, .int .i64 X.k0, .int .u8 X.k1, .bool X.k2, .bool X.k3, .int .i64 7, .int .i64 9] 30] := hs_124
                refine SL.appR (z := .agg #[.int .i64 0, .int .i64 0, .slice none 0 0, .int .i64 0, .int .u8 0, .bool false, .bool false, .int .i64 0, .int .i64 0]) (size := 9) (bytes := 72) (el := 30) (m := 1) (news := [.int .i64 X.at_, .int .i64 X.kd, .slice X.da X.bs.length X.dc, .int .i64 X.k0, .int .u8 X.k1, .bool X.k2, .bool X.k3, .int .i64 7, .int .i64 9]) (i := 2) (xs' := xcells (xs ++ [(⟨X.at_, X.kd, X.da, X.dc, X.k0, X.k1, X.k2, X.k3, 7, 9, X.bs⟩ : Itm)])) (k' := (xs ++ [(⟨X.at_, X.kd, X.da, X.dc, X.k0, X.k1, X.k2, X.k3, 7, 9, X.bs⟩ : Itm)]).length) (L' := [rowH 25 1 ao (out).length co (lcells out), allH (out.map (rowP 30)), pt g_34 #[.int .i64 X.at_, .int .i64 X.kd, .slice X.da X.bs.length X.dc, .int .i64 X.k0, .int .u8 X.k1, .bool X.k2, .bool X.k3, .int .i64 7, .int .i64 9] 30, pt g_122 #[.int .i64 X.at_, .int .i64 X.kd, .slice X.da X.bs.length X.dc, .int .i64 X.k0, .int .u8 X.k1, .bool X.k2, .bool X.k3, .int .i64 7, .int .i64 9] 30]) hs_124 rfl rfl rfl (by kernel_rfl) (by kernel_rfl) (by kernel_rfl) (by kernel_rfl) (by kernel_rfl) (by kernel_rfl) rfl rfl (srcH (off := 0) (cs := [.int .i64 X.at_, .int .i64 X.kd, .slice X.da X.bs.length X.dc, .int .i64 X.k0, .int .u8 X.k1, .bool X.k2, .bool X.k3, .int .i64 7, .int .i64 9]) (el := 30) (by kernel_rfl) (hs_124.pt_at (i := 4) rfl) rfl rfl (List.all_eq_true.1 (by kernel_rfl))) (by (try simp only [List.length_append, List.length_cons, List.length_nil]); omega) (xcells_app xs ([(⟨X.at_, X.kd, X.da, X.dc, X.k0, X.k1, X.k2, X.k3, 7, 9, X.bs⟩ : Itm)])) (by first | (simp; done) | (simp only [List.length_append, List.length_cons, List.length_nil] <;> omega)) rfl (fun a_125 c_126 w_127 hs_128 => ?_)
                have hs_128 : SH [] w w_127 [rowH 25 1 ao (out).length co (lcells out), allH (out.map (rowP 30)), pt g_34 #[.int .i64 X.at_, .int .i64 X.kd, .slice X.da X.bs.length X.dc, .int .i64 X.k0, .int .u8 X.k1, .bool X.k2, .bool X.k3, .int .i64 7, .int .i64 9] 30, pt g_122 #[.int .i64 X.at_, .int .i64 X.kd, .slice X.da X.bs.length X.dc, .int .i64 X.k0, .int .u8 X.k1, .bool X.k2, .bool X.k3, .int .i64 7, .int .i64 9] 30, rowH 30 9 a_125 (xs ++ [(⟨X.at_, X.kd, X.da, X.dc, X.k0, X.k1, X.k2, X.k3, 7, 9, X.bs⟩ : Itm)]).length c_126 (xcells (xs ++ [(⟨X.at_, X.kd, X.da, X.dc, X.k0, X.k1, X.k2, X.k3, 7, 9, X.bs⟩ : Itm)]))] := hs_128
                refine SL.v (.slice a_125 ((xs ++ [(⟨X.at_, X.kd, X.da, X.dc, X.k0, X.k1, X.k2, X.k3, 7, 9, X.bs⟩ : Itm)]).length) c_126) ?_
                refine SL.nil ?_
                refine CW.region ?_
                refine SL.v (.int .i64 ((j : Nat) : Int)) ?_
                refine SL.val (v := .int .i64 ((j + 1 : Nat) : Int)) (w' := w_127) rfl rfl (by have hw : IntKind.i64.wrap (((j : Nat) : Int) + 1) = ((j + 1 : Nat) : Int) := (IntWalk.i64_in _ (by omega)).trans (by omega); exact run_eqv (by kernel_rfl) (congrArg (fun z => Value.int .i64 z) hw)) ?_
                refine SL.v (.int .i64 ((j + 1 : Nat) : Int)) ?_
                refine SL.nil ?_
                have hx9_ : xs ++ [(⟨X.at_, X.kd, X.da, X.dc, X.k0, X.k1, X.k2, X.k3, 7, 9, X.bs⟩ : Itm)] = (E.xs.take (j + 1)).map fewX := by
                  have hf_ : fewS X = true := by unfold fewS; rw [hb_116, hb_117]; rfl
                  rw [few_takex (by omega), List.map_append, ← hxs, ← hX]
                  congr 1
                  show [_] = [fewX X]
                  unfold fewX
                  rw [hf_, if_neg (by omega)]
                  rfl
                exact ⟨_, ⟨j + 1, xs ++ [(⟨X.at_, X.kd, X.da, X.dc, X.k0, X.k1, X.k2, X.k3, 7, 9, X.bs⟩ : Itm)], a_125, c_126, rfl, (hs_128.pick [0, 0, 2] rfl), (by omega), (by omega), hx9_, (by kernel_rfl), (by kernel_rfl), (by kernel_rfl), (by kernel_rfl), (by kernel_rfl), (by kernel_rfl), (by kernel_rfl), (by kernel_rfl), (by kernel_rfl)⟩, by omega⟩
              · try rw [hb_117]
                have hqhb_117 := of_decide_eq_false hb_117
                refine SL.go ?_
                refine SL.v (.pointer (some ⟨g_34, 8, none⟩)) ?_
                refine SL.go ?_
                refine SL.load (g := g_34) (off := 8) (v := .int .i64 X.cl) rfl rfl rfl (by kernel_rfl) (hs_38.pt_at (i := 3) rfl) (by kernel_rfl) ?_
                refine SL.go ?_
                refine SL.v (.bool (decide (90 < X.cl))) ?_
                refine SL.go ?_
                refine SL.v (.bool (decide (90 < X.cl))) ?_
                rcases Bool.eq_false_or_eq_true (decide (90 < X.cl)) with hb_130 | hb_130
                · try rw [hb_130]
                  have hqhb_130 := of_decide_eq_true hb_130
                  refine SL.go ?_
                  refine SL.v (.pointer (some ⟨g_34, 8, none⟩)) ?_
                  refine SL.go ?_
                  refine SL.load (g := g_34) (off := 8) (v := .int .i64 X.cl) rfl rfl rfl (by kernel_rfl) (hs_38.pt_at (i := 3) rfl) (by kernel_rfl) ?_
                  refine SL.go ?_
                  refine SL.v (.bool (decide (X.cl ≤ 500))) ?_
                  refine SL.go ?_
                  refine SL.v (.bool (decide (X.cl ≤ 500))) ?_
                  refine SL.v (.bool (decide (X.cl ≤ 500))) ?_
                  refine SL.nil ?_
                  rcases Bool.eq_false_or_eq_true (decide (X.cl ≤ 500)) with hb_131 | hb_131
                  · try rw [hb_131]
                    have hqhb_131 := of_decide_eq_true hb_131
                    refine CW.cond_true (by kernel_rfl) ?_
                    refine CW.region ?_
                    refine SL.v (.pointer (some ⟨g_34, 7, none⟩)) ?_
                    refine SL.storeH (i := 3) (g := g_34) (off := 7) (v := .int .i64 7) (L' := [rowH 25 1 ao (out).length co (lcells out), allH (out.map (rowP 30)), rowH 30 9 ai (xs).length ci (xcells xs), pt g_34 #[.int .i64 X.at_, .int .i64 X.kd, .slice X.da X.bs.length X.dc, .int .i64 X.k0, .int .u8 X.k1, .bool X.k2, .bool X.k3, .int .i64 7, .int .i64 X.cl] 30]) hs_38 rfl rfl rfl (by kernel_rfl) (by kernel_rfl) rfl (by kernel_rfl) (by kernel_rfl) rfl (by kernel_rfl) rfl (fun w_132 hs_133 => ?_)
                    refine SL.v (.pointer (some ⟨g_34, 8, none⟩)) ?_
                    refine SL.storeH (i := 3) (g := g_34) (off := 8) (v := .int .i64 9) (L' := [rowH 25 1 ao (out).length co (lcells out), allH (out.map (rowP 30)), rowH 30 9 ai (xs).length ci (xcells xs), pt g_34 #[.int .i64 X.at_, .int .i64 X.kd, .slice X.da X.bs.length X.dc, .int .i64 X.k0, .int .u8 X.k1, .bool X.k2, .bool X.k3, .int .i64 7, .int .i64 9] 30]) hs_133 rfl rfl rfl (by kernel_rfl) (by kernel_rfl) rfl (by kernel_rfl) (by kernel_rfl) rfl (by kernel_rfl) rfl (fun w_134 hs_135 => ?_)
                    refine SL.nil ?_
                    refine CW.region ?_
                    refine SL.v (.slice ai ((xs).length) ci) ?_
                    refine SL.load (g := g_34) (off := 0) (v := .agg #[.int .i64 X.at_, .int .i64 X.kd, .slice X.da X.bs.length X.dc, .int .i64 X.k0, .int .u8 X.k1, .bool X.k2, .bool X.k3, .int .i64 7, .int .i64 9]) rfl rfl rfl (by kernel_rfl) (hs_135.pt_at (i := 3) rfl) (by kernel_rfl) ?_
                    refine SL.newH (mk := fun g => .slice (some ⟨g, 0, none⟩) 1 1) (C := #[.int .i64 X.at_, .int .i64 X.kd, .slice X.da X.bs.length X.dc, .int .i64 X.k0, .int .u8 X.k1, .bool X.k2, .bool X.k3, .int .i64 7, .int .i64 9]) (T := 30) hs_135 rfl rfl (by kernel_rfl) (fun g_136 w_137 hs_138 => ?_)
                    have hs_138 : SH [] w w_137 [rowH 25 1 ao (out).length co (lcells out), allH (out.map (rowP 30)), rowH 30 9 ai (xs).length ci (xcells xs), pt g_34 #[.int .i64 X.at_, .int .i64 X.kd, .slice X.da X.bs.length X.dc, .int .i64 X.k0, .int .u8 X.k1, .bool X.k2, .bool X.k3, .int .i64 7, .int .i64 9] 30, pt g_136 #[.int .i64 X.at_, .int .i64 X.kd, .slice X.da X.bs.length X.dc, .int .i64 X.k0, .int .u8 X.k1, .bool X.k2, .bool X.k3, .int .i64 7, .int .i64 9] 30] := hs_138
                    refine SL.appR (z := .agg #[.int .i64 0, .int .i64 0, .slice none 0 0, .int .i64 0, .int .u8 0, .bool false, .bool false, .int .i64 0, .int .i64 0]) (size := 9) (bytes := 72) (el := 30) (m := 1) (news := [.int .i64 X.at_, .int .i64 X.kd, .slice X.da X.bs.length X.dc, .int .i64 X.k0, .int .u8 X.k1, .bool X.k2, .bool X.k3, .int .i64 7, .int .i64 9]) (i := 2) (xs' := xcells (xs ++ [(⟨X.at_, X.kd, X.da, X.dc, X.k0, X.k1, X.k2, X.k3, 7, 9, X.bs⟩ : Itm)])) (k' := (xs ++ [(⟨X.at_, X.kd, X.da, X.dc, X.k0, X.k1, X.k2, X.k3, 7, 9, X.bs⟩ : Itm)]).length) (L' := [rowH 25 1 ao (out).length co (lcells out), allH (out.map (rowP 30)), pt g_34 #[.int .i64 X.at_, .int .i64 X.kd, .slice X.da X.bs.length X.dc, .int .i64 X.k0, .int .u8 X.k1, .bool X.k2, .bool X.k3, .int .i64 7, .int .i64 9] 30, pt g_136 #[.int .i64 X.at_, .int .i64 X.kd, .slice X.da X.bs.length X.dc, .int .i64 X.k0, .int .u8 X.k1, .bool X.k2, .bool X.k3, .int .i64 7, .int .i64 9] 30]) hs_138 rfl rfl rfl (by kernel_rfl) (by kernel_rfl) (by kernel_rfl) (by kernel_rfl) (by kernel_rfl) (by kernel_rfl) rfl rfl (srcH (off := 0) (cs := [.int .i64 X.at_, .int .i64 X.kd, .slice X.da X.bs.length X.dc, .int .i64 X.k0, .int .u8 X.k1, .bool X.k2, .bool X.k3, .int .i64 7, .int .i64 9]) (el := 30) (by kernel_rfl) (hs_138.pt_at (i := 4) rfl) rfl rfl (List.all_eq_true.1 (by kernel_rfl))) (by (try simp only [List.length_append, List.length_cons, List.length_nil]); omega) (xcells_app xs ([(⟨X.at_, X.kd, X.da, X.dc, X.k0, X.k1, X.k2, X.k3, 7, 9, X.bs⟩ : Itm)])) (by first | (simp; done) | (simp only [List.length_append, List.length_cons, List.length_nil] <;> omega)) rfl (fun a_139 c_140 w_141 hs_142 => ?_)
                    have hs_142 : SH [] w w_141 [rowH 25 1 ao (out).length co (lcells out), allH (out.map (rowP 30)), pt g_34 #[.int .i64 X.at_, .int .i64 X.kd, .slice X.da X.bs.length X.dc, .int .i64 X.k0, .int .u8 X.k1, .bool X.k2, .bool X.k3, .int .i64 7, .int .i64 9] 30, pt g_136 #[.int .i64 X.at_, .int .i64 X.kd, .slice X.da X.bs.length X.dc, .int .i64 X.k0, .int .u8 X.k1, .bool X.k2, .bool X.k3, .int .i64 7, .int .i64 9] 30, rowH 30 9 a_139 (xs ++ [(⟨X.at_, X.kd, X.da, X.dc, X.k0, X.k1, X.k2, X.k3, 7, 9, X.bs⟩ : Itm)]).length c_140 (xcells (xs ++ [(⟨X.at_, X.kd, X.da, X.dc, X.k0, X.k1, X.k2, X.k3, 7, 9, X.bs⟩ : Itm)]))] := hs_142
                    refine SL.v (.slice a_139 ((xs ++ [(⟨X.at_, X.kd, X.da, X.dc, X.k0, X.k1, X.k2, X.k3, 7, 9, X.bs⟩ : Itm)]).length) c_140) ?_
                    refine SL.nil ?_
                    refine CW.region ?_
                    refine SL.v (.int .i64 ((j : Nat) : Int)) ?_
                    refine SL.val (v := .int .i64 ((j + 1 : Nat) : Int)) (w' := w_141) rfl rfl (by have hw : IntKind.i64.wrap (((j : Nat) : Int) + 1) = ((j + 1 : Nat) : Int) := (IntWalk.i64_in _ (by omega)).trans (by omega); exact run_eqv (by kernel_rfl) (congrArg (fun z => Value.int .i64 z) hw)) ?_
                    refine SL.v (.int .i64 ((j + 1 : Nat) : Int)) ?_
                    refine SL.nil ?_
                    have hx9_ : xs ++ [(⟨X.at_, X.kd, X.da, X.dc, X.k0, X.k1, X.k2, X.k3, 7, 9, X.bs⟩ : Itm)] = (E.xs.take (j + 1)).map fewX := by
                      have hf_ : fewS X = true := by unfold fewS; rw [hb_116, hb_117, hb_130, hb_131]; rfl
                      rw [few_takex (by omega), List.map_append, ← hxs, ← hX]
                      congr 1
                      show [_] = [fewX X]
                      unfold fewX
                      rw [hf_, if_neg (by omega)]
                      rfl
                    exact ⟨_, ⟨j + 1, xs ++ [(⟨X.at_, X.kd, X.da, X.dc, X.k0, X.k1, X.k2, X.k3, 7, 9, X.bs⟩ : Itm)], a_139, c_140, rfl, (hs_142.pick [0, 0, 2] rfl), (by omega), (by omega), hx9_, (by kernel_rfl), (by kernel_rfl), (by kernel_rfl), (by kernel_rfl), (by kernel_rfl), (by kernel_rfl), (by kernel_rfl), (by kernel_rfl), (by kernel_rfl)⟩, by omega⟩
                  · try rw [hb_131]
                    have hqhb_131 := of_decide_eq_false hb_131
                    refine CW.cond_false (by kernel_rfl) ?_
                    refine CW.skip ?_
                    refine CW.region ?_
                    refine SL.v (.slice ai ((xs).length) ci) ?_
                    refine SL.load (g := g_34) (off := 0) (v := .agg #[.int .i64 X.at_, .int .i64 X.kd, .slice X.da X.bs.length X.dc, .int .i64 X.k0, .int .u8 X.k1, .bool X.k2, .bool X.k3, .int .i64 X.rw_, .int .i64 X.cl]) rfl rfl rfl (by kernel_rfl) (hs_38.pt_at (i := 3) rfl) (by kernel_rfl) ?_
                    refine SL.newH (mk := fun g => .slice (some ⟨g, 0, none⟩) 1 1) (C := #[.int .i64 X.at_, .int .i64 X.kd, .slice X.da X.bs.length X.dc, .int .i64 X.k0, .int .u8 X.k1, .bool X.k2, .bool X.k3, .int .i64 X.rw_, .int .i64 X.cl]) (T := 30) hs_38 rfl rfl (by kernel_rfl) (fun g_144 w_145 hs_146 => ?_)
                    have hs_146 : SH [] w w_145 [rowH 25 1 ao (out).length co (lcells out), allH (out.map (rowP 30)), rowH 30 9 ai (xs).length ci (xcells xs), pt g_34 #[.int .i64 X.at_, .int .i64 X.kd, .slice X.da X.bs.length X.dc, .int .i64 X.k0, .int .u8 X.k1, .bool X.k2, .bool X.k3, .int .i64 X.rw_, .int .i64 X.cl] 30, pt g_144 #[.int .i64 X.at_, .int .i64 X.kd, .slice X.da X.bs.length X.dc, .int .i64 X.k0, .int .u8 X.k1, .bool X.k2, .bool X.k3, .int .i64 X.rw_, .int .i64 X.cl] 30] := hs_146
                    refine SL.appR (z := .agg #[.int .i64 0, .int .i64 0, .slice none 0 0, .int .i64 0, .int .u8 0, .bool false, .bool false, .int .i64 0, .int .i64 0]) (size := 9) (bytes := 72) (el := 30) (m := 1) (news := [.int .i64 X.at_, .int .i64 X.kd, .slice X.da X.bs.length X.dc, .int .i64 X.k0, .int .u8 X.k1, .bool X.k2, .bool X.k3, .int .i64 X.rw_, .int .i64 X.cl]) (i := 2) (xs' := xcells (xs ++ [(⟨X.at_, X.kd, X.da, X.dc, X.k0, X.k1, X.k2, X.k3, X.rw_, X.cl, X.bs⟩ : Itm)])) (k' := (xs ++ [(⟨X.at_, X.kd, X.da, X.dc, X.k0, X.k1, X.k2, X.k3, X.rw_, X.cl, X.bs⟩ : Itm)]).length) (L' := [rowH 25 1 ao (out).length co (lcells out), allH (out.map (rowP 30)), pt g_34 #[.int .i64 X.at_, .int .i64 X.kd, .slice X.da X.bs.length X.dc, .int .i64 X.k0, .int .u8 X.k1, .bool X.k2, .bool X.k3, .int .i64 X.rw_, .int .i64 X.cl] 30, pt g_144 #[.int .i64 X.at_, .int .i64 X.kd, .slice X.da X.bs.length X.dc, .int .i64 X.k0, .int .u8 X.k1, .bool X.k2, .bool X.k3, .int .i64 X.rw_, .int .i64 X.cl] 30]) hs_146 rfl rfl rfl (by kernel_rfl) (by kernel_rfl) (by kernel_rfl) (by kernel_rfl) (by kernel_rfl) (by kernel_rfl) rfl rfl (srcH (off := 0) (cs := [.int .i64 X.at_, .int .i64 X.kd, .slice X.da X.bs.length X.dc, .int .i64 X.k0, .int .u8 X.k1, .bool X.k2, .bool X.k3, .int .i64 X.rw_, .int .i64 X.cl]) (el := 30) (by kernel_rfl) (hs_146.pt_at (i := 4) rfl) rfl rfl (List.all_eq_true.1 (by kernel_rfl))) (by (try simp only [List.length_append, List.length_cons, List.length_nil]); omega) (xcells_app xs ([(⟨X.at_, X.kd, X.da, X.dc, X.k0, X.k1, X.k2, X.k3, X.rw_, X.cl, X.bs⟩ : Itm)])) (by first | (simp; done) | (simp only [List.length_append, List.length_cons, List.length_nil] <;> omega)) rfl (fun a_147 c_148 w_149 hs_150 => ?_)
                    have hs_150 : SH [] w w_149 [rowH 25 1 ao (out).length co (lcells out), allH (out.map (rowP 30)), pt g_34 #[.int .i64 X.at_, .int .i64 X.kd, .slice X.da X.bs.length X.dc, .int .i64 X.k0, .int .u8 X.k1, .bool X.k2, .bool X.k3, .int .i64 X.rw_, .int .i64 X.cl] 30, pt g_144 #[.int .i64 X.at_, .int .i64 X.kd, .slice X.da X.bs.length X.dc, .int .i64 X.k0, .int .u8 X.k1, .bool X.k2, .bool X.k3, .int .i64 X.rw_, .int .i64 X.cl] 30, rowH 30 9 a_147 (xs ++ [(⟨X.at_, X.kd, X.da, X.dc, X.k0, X.k1, X.k2, X.k3, X.rw_, X.cl, X.bs⟩ : Itm)]).length c_148 (xcells (xs ++ [(⟨X.at_, X.kd, X.da, X.dc, X.k0, X.k1, X.k2, X.k3, X.rw_, X.cl, X.bs⟩ : Itm)]))] := hs_150
                    refine SL.v (.slice a_147 ((xs ++ [(⟨X.at_, X.kd, X.da, X.dc, X.k0, X.k1, X.k2, X.k3, X.rw_, X.cl, X.bs⟩ : Itm)]).length) c_148) ?_
                    refine SL.nil ?_
                    refine CW.region ?_
                    refine SL.v (.int .i64 ((j : Nat) : Int)) ?_
                    refine SL.val (v := .int .i64 ((j + 1 : Nat) : Int)) (w' := w_149) rfl rfl (by have hw : IntKind.i64.wrap (((j : Nat) : Int) + 1) = ((j + 1 : Nat) : Int) := (IntWalk.i64_in _ (by omega)).trans (by omega); exact run_eqv (by kernel_rfl) (congrArg (fun z => Value.int .i64 z) hw)) ?_
                    refine SL.v (.int .i64 ((j + 1 : Nat) : Int)) ?_
                    refine SL.nil ?_
                    have hx9_ : xs ++ [(⟨X.at_, X.kd, X.da, X.dc, X.k0, X.k1, X.k2, X.k3, X.rw_, X.cl, X.bs⟩ : Itm)] = (E.xs.take (j + 1)).map fewX := by
                      have hf_ : fewS X = false := by unfold fewS; rw [hb_116, hb_117, hb_130, hb_131]; rfl
                      rw [few_takex (by omega), List.map_append, ← hxs, ← hX]
                      congr 1
                      show [_] = [fewX X]
                      unfold fewX
                      rw [hf_, if_neg (by omega)]
                      rfl
                    exact ⟨_, ⟨j + 1, xs ++ [(⟨X.at_, X.kd, X.da, X.dc, X.k0, X.k1, X.k2, X.k3, X.rw_, X.cl, X.bs⟩ : Itm)], a_147, c_148, rfl, (hs_150.pick [0, 0, 2] rfl), (by omega), (by omega), hx9_, (by kernel_rfl), (by kernel_rfl), (by kernel_rfl), (by kernel_rfl), (by kernel_rfl), (by kernel_rfl), (by kernel_rfl), (by kernel_rfl), (by kernel_rfl)⟩, by omega⟩
                · try rw [hb_130]
                  have hqhb_130 := of_decide_eq_false hb_130
                  refine SL.no false ?_
                  refine SL.no false ?_
                  refine SL.no false ?_
                  refine SL.go ?_
                  refine SL.v (.bool false) ?_
                  refine SL.v (.bool false) ?_
                  refine SL.nil ?_
                  refine CW.cond_false (by kernel_rfl) ?_
                  refine CW.skip ?_
                  refine CW.region ?_
                  refine SL.v (.slice ai ((xs).length) ci) ?_
                  refine SL.load (g := g_34) (off := 0) (v := .agg #[.int .i64 X.at_, .int .i64 X.kd, .slice X.da X.bs.length X.dc, .int .i64 X.k0, .int .u8 X.k1, .bool X.k2, .bool X.k3, .int .i64 X.rw_, .int .i64 X.cl]) rfl rfl rfl (by kernel_rfl) (hs_38.pt_at (i := 3) rfl) (by kernel_rfl) ?_
                  refine SL.newH (mk := fun g => .slice (some ⟨g, 0, none⟩) 1 1) (C := #[.int .i64 X.at_, .int .i64 X.kd, .slice X.da X.bs.length X.dc, .int .i64 X.k0, .int .u8 X.k1, .bool X.k2, .bool X.k3, .int .i64 X.rw_, .int .i64 X.cl]) (T := 30) hs_38 rfl rfl (by kernel_rfl) (fun g_152 w_153 hs_154 => ?_)
                  have hs_154 : SH [] w w_153 [rowH 25 1 ao (out).length co (lcells out), allH (out.map (rowP 30)), rowH 30 9 ai (xs).length ci (xcells xs), pt g_34 #[.int .i64 X.at_, .int .i64 X.kd, .slice X.da X.bs.length X.dc, .int .i64 X.k0, .int .u8 X.k1, .bool X.k2, .bool X.k3, .int .i64 X.rw_, .int .i64 X.cl] 30, pt g_152 #[.int .i64 X.at_, .int .i64 X.kd, .slice X.da X.bs.length X.dc, .int .i64 X.k0, .int .u8 X.k1, .bool X.k2, .bool X.k3, .int .i64 X.rw_, .int .i64 X.cl] 30] := hs_154
                  refine SL.appR (z := .agg #[.int .i64 0, .int .i64 0, .slice none 0 0, .int .i64 0, .int .u8 0, .bool false, .bool false, .int .i64 0, .int .i64 0]) (size := 9) (bytes := 72) (el := 30) (m := 1) (news := [.int .i64 X.at_, .int .i64 X.kd, .slice X.da X.bs.length X.dc, .int .i64 X.k0, .int .u8 X.k1, .bool X.k2, .bool X.k3, .int .i64 X.rw_, .int .i64 X.cl]) (i := 2) (xs' := xcells (xs ++ [(⟨X.at_, X.kd, X.da, X.dc, X.k0, X.k1, X.k2, X.k3, X.rw_, X.cl, X.bs⟩ : Itm)])) (k' := (xs ++ [(⟨X.at_, X.kd, X.da, X.dc, X.k0, X.k1, X.k2, X.k3, X.rw_, X.cl, X.bs⟩ : Itm)]).length) (L' := [rowH 25 1 ao (out).length co (lcells out), allH (out.map (rowP 30)), pt g_34 #[.int .i64 X.at_, .int .i64 X.kd, .slice X.da X.bs.length X.dc, .int .i64 X.k0, .int .u8 X.k1, .bool X.k2, .bool X.k3, .int .i64 X.rw_, .int .i64 X.cl] 30, pt g_152 #[.int .i64 X.at_, .int .i64 X.kd, .slice X.da X.bs.length X.dc, .int .i64 X.k0, .int .u8 X.k1, .bool X.k2, .bool X.k3, .int .i64 X.rw_, .int .i64 X.cl] 30]) hs_154 rfl rfl rfl (by kernel_rfl) (by kernel_rfl) (by kernel_rfl) (by kernel_rfl) (by kernel_rfl) (by kernel_rfl) rfl rfl (srcH (off := 0) (cs := [.int .i64 X.at_, .int .i64 X.kd, .slice X.da X.bs.length X.dc, .int .i64 X.k0, .int .u8 X.k1, .bool X.k2, .bool X.k3, .int .i64 X.rw_, .int .i64 X.cl]) (el := 30) (by kernel_rfl) (hs_154.pt_at (i := 4) rfl) rfl rfl (List.all_eq_true.1 (by kernel_rfl))) (by (try simp only [List.length_append, List.length_cons, List.length_nil]); omega) (xcells_app xs ([(⟨X.at_, X.kd, X.da, X.dc, X.k0, X.k1, X.k2, X.k3, X.rw_, X.cl, X.bs⟩ : Itm)])) (by first | (simp; done) | (simp only [List.length_append, List.length_cons, List.length_nil] <;> omega)) rfl (fun a_155 c_156 w_157 hs_158 => ?_)
                  have hs_158 : SH [] w w_157 [rowH 25 1 ao (out).length co (lcells out), allH (out.map (rowP 30)), pt g_34 #[.int .i64 X.at_, .int .i64 X.kd, .slice X.da X.bs.length X.dc, .int .i64 X.k0, .int .u8 X.k1, .bool X.k2, .bool X.k3, .int .i64 X.rw_, .int .i64 X.cl] 30, pt g_152 #[.int .i64 X.at_, .int .i64 X.kd, .slice X.da X.bs.length X.dc, .int .i64 X.k0, .int .u8 X.k1, .bool X.k2, .bool X.k3, .int .i64 X.rw_, .int .i64 X.cl] 30, rowH 30 9 a_155 (xs ++ [(⟨X.at_, X.kd, X.da, X.dc, X.k0, X.k1, X.k2, X.k3, X.rw_, X.cl, X.bs⟩ : Itm)]).length c_156 (xcells (xs ++ [(⟨X.at_, X.kd, X.da, X.dc, X.k0, X.k1, X.k2, X.k3, X.rw_, X.cl, X.bs⟩ : Itm)]))] := hs_158
                  refine SL.v (.slice a_155 ((xs ++ [(⟨X.at_, X.kd, X.da, X.dc, X.k0, X.k1, X.k2, X.k3, X.rw_, X.cl, X.bs⟩ : Itm)]).length) c_156) ?_
                  refine SL.nil ?_
                  refine CW.region ?_
                  refine SL.v (.int .i64 ((j : Nat) : Int)) ?_
                  refine SL.val (v := .int .i64 ((j + 1 : Nat) : Int)) (w' := w_157) rfl rfl (by have hw : IntKind.i64.wrap (((j : Nat) : Int) + 1) = ((j + 1 : Nat) : Int) := (IntWalk.i64_in _ (by omega)).trans (by omega); exact run_eqv (by kernel_rfl) (congrArg (fun z => Value.int .i64 z) hw)) ?_
                  refine SL.v (.int .i64 ((j + 1 : Nat) : Int)) ?_
                  refine SL.nil ?_
                  have hx9_ : xs ++ [(⟨X.at_, X.kd, X.da, X.dc, X.k0, X.k1, X.k2, X.k3, X.rw_, X.cl, X.bs⟩ : Itm)] = (E.xs.take (j + 1)).map fewX := by
                    have hf_ : fewS X = false := by unfold fewS; rw [hb_116, hb_117, hb_130]; rfl
                    rw [few_takex (by omega), List.map_append, ← hxs, ← hX]
                    congr 1
                    show [_] = [fewX X]
                    unfold fewX
                    rw [hf_, if_neg (by omega)]
                    rfl
                  exact ⟨_, ⟨j + 1, xs ++ [(⟨X.at_, X.kd, X.da, X.dc, X.k0, X.k1, X.k2, X.k3, X.rw_, X.cl, X.bs⟩ : Itm)], a_155, c_156, rfl, (hs_158.pick [0, 0, 2] rfl), (by omega), (by omega), hx9_, (by kernel_rfl), (by kernel_rfl), (by kernel_rfl), (by kernel_rfl), (by kernel_rfl), (by kernel_rfl), (by kernel_rfl), (by kernel_rfl), (by kernel_rfl)⟩, by omega⟩
            · try rw [hb_116]
              have hqhb_116 := of_decide_eq_false hb_116
              refine SL.no false ?_
              refine SL.no false ?_
              refine SL.no false ?_
              refine SL.v (.bool false) ?_
              refine SL.v (.bool false) ?_
              refine SL.go ?_
              refine SL.v (.pointer (some ⟨g_34, 8, none⟩)) ?_
              refine SL.go ?_
              refine SL.load (g := g_34) (off := 8) (v := .int .i64 X.cl) rfl rfl rfl (by kernel_rfl) (hs_38.pt_at (i := 3) rfl) (by kernel_rfl) ?_
              refine SL.go ?_
              refine SL.v (.bool (decide (90 < X.cl))) ?_
              refine SL.go ?_
              refine SL.v (.bool (decide (90 < X.cl))) ?_
              rcases Bool.eq_false_or_eq_true (decide (90 < X.cl)) with hb_160 | hb_160
              · try rw [hb_160]
                have hqhb_160 := of_decide_eq_true hb_160
                refine SL.go ?_
                refine SL.v (.pointer (some ⟨g_34, 8, none⟩)) ?_
                refine SL.go ?_
                refine SL.load (g := g_34) (off := 8) (v := .int .i64 X.cl) rfl rfl rfl (by kernel_rfl) (hs_38.pt_at (i := 3) rfl) (by kernel_rfl) ?_
                refine SL.go ?_
                refine SL.v (.bool (decide (X.cl ≤ 500))) ?_
                refine SL.go ?_
                refine SL.v (.bool (decide (X.cl ≤ 500))) ?_
                refine SL.v (.bool (decide (X.cl ≤ 500))) ?_
                refine SL.nil ?_
                rcases Bool.eq_false_or_eq_true (decide (X.cl ≤ 500)) with hb_161 | hb_161
                · try rw [hb_161]
                  have hqhb_161 := of_decide_eq_true hb_161
                  refine CW.cond_true (by kernel_rfl) ?_
                  refine CW.region ?_
                  refine SL.v (.pointer (some ⟨g_34, 7, none⟩)) ?_
                  refine SL.storeH (i := 3) (g := g_34) (off := 7) (v := .int .i64 7) (L' := [rowH 25 1 ao (out).length co (lcells out), allH (out.map (rowP 30)), rowH 30 9 ai (xs).length ci (xcells xs), pt g_34 #[.int .i64 X.at_, .int .i64 X.kd, .slice X.da X.bs.length X.dc, .int .i64 X.k0, .int .u8 X.k1, .bool X.k2, .bool X.k3, .int .i64 7, .int .i64 X.cl] 30]) hs_38 rfl rfl rfl (by kernel_rfl) (by kernel_rfl) rfl (by kernel_rfl) (by kernel_rfl) rfl (by kernel_rfl) rfl (fun w_162 hs_163 => ?_)
                  refine SL.v (.pointer (some ⟨g_34, 8, none⟩)) ?_
                  refine SL.storeH (i := 3) (g := g_34) (off := 8) (v := .int .i64 9) (L' := [rowH 25 1 ao (out).length co (lcells out), allH (out.map (rowP 30)), rowH 30 9 ai (xs).length ci (xcells xs), pt g_34 #[.int .i64 X.at_, .int .i64 X.kd, .slice X.da X.bs.length X.dc, .int .i64 X.k0, .int .u8 X.k1, .bool X.k2, .bool X.k3, .int .i64 7, .int .i64 9] 30]) hs_163 rfl rfl rfl (by kernel_rfl) (by kernel_rfl) rfl (by kernel_rfl) (by kernel_rfl) rfl (by kernel_rfl) rfl (fun w_164 hs_165 => ?_)
                  refine SL.nil ?_
                  refine CW.region ?_
                  refine SL.v (.slice ai ((xs).length) ci) ?_
                  refine SL.load (g := g_34) (off := 0) (v := .agg #[.int .i64 X.at_, .int .i64 X.kd, .slice X.da X.bs.length X.dc, .int .i64 X.k0, .int .u8 X.k1, .bool X.k2, .bool X.k3, .int .i64 7, .int .i64 9]) rfl rfl rfl (by kernel_rfl) (hs_165.pt_at (i := 3) rfl) (by kernel_rfl) ?_
                  refine SL.newH (mk := fun g => .slice (some ⟨g, 0, none⟩) 1 1) (C := #[.int .i64 X.at_, .int .i64 X.kd, .slice X.da X.bs.length X.dc, .int .i64 X.k0, .int .u8 X.k1, .bool X.k2, .bool X.k3, .int .i64 7, .int .i64 9]) (T := 30) hs_165 rfl rfl (by kernel_rfl) (fun g_166 w_167 hs_168 => ?_)
                  have hs_168 : SH [] w w_167 [rowH 25 1 ao (out).length co (lcells out), allH (out.map (rowP 30)), rowH 30 9 ai (xs).length ci (xcells xs), pt g_34 #[.int .i64 X.at_, .int .i64 X.kd, .slice X.da X.bs.length X.dc, .int .i64 X.k0, .int .u8 X.k1, .bool X.k2, .bool X.k3, .int .i64 7, .int .i64 9] 30, pt g_166 #[.int .i64 X.at_, .int .i64 X.kd, .slice X.da X.bs.length X.dc, .int .i64 X.k0, .int .u8 X.k1, .bool X.k2, .bool X.k3, .int .i64 7, .int .i64 9] 30] := hs_168
                  refine SL.appR (z := .agg #[.int .i64 0, .int .i64 0, .slice none 0 0, .int .i64 0, .int .u8 0, .bool false, .bool false, .int .i64 0, .int .i64 0]) (size := 9) (bytes := 72) (el := 30) (m := 1) (news := [.int .i64 X.at_, .int .i64 X.kd, .slice X.da X.bs.length X.dc, .int .i64 X.k0, .int .u8 X.k1, .bool X.k2, .bool X.k3, .int .i64 7, .int .i64 9]) (i := 2) (xs' := xcells (xs ++ [(⟨X.at_, X.kd, X.da, X.dc, X.k0, X.k1, X.k2, X.k3, 7, 9, X.bs⟩ : Itm)])) (k' := (xs ++ [(⟨X.at_, X.kd, X.da, X.dc, X.k0, X.k1, X.k2, X.k3, 7, 9, X.bs⟩ : Itm)]).length) (L' := [rowH 25 1 ao (out).length co (lcells out), allH (out.map (rowP 30)), pt g_34 #[.int .i64 X.at_, .int .i64 X.kd, .slice X.da X.bs.length X.dc, .int .i64 X.k0, .int .u8 X.k1, .bool X.k2, .bool X.k3, .int .i64 7, .int .i64 9] 30, pt g_166 #[.int .i64 X.at_, .int .i64 X.kd, .slice X.da X.bs.length X.dc, .int .i64 X.k0, .int .u8 X.k1, .bool X.k2, .bool X.k3, .int .i64 7, .int .i64 9] 30]) hs_168 rfl rfl rfl (by kernel_rfl) (by kernel_rfl) (by kernel_rfl) (by kernel_rfl) (by kernel_rfl) (by kernel_rfl) rfl rfl (srcH (off := 0) (cs := [.int .i64 X.at_, .int .i64 X.kd, .slice X.da X.bs.length X.dc, .int .i64 X.k0, .int .u8 X.k1, .bool X.k2, .bool X.k3, .int .i64 7, .int .i64 9]) (el := 30) (by kernel_rfl) (hs_168.pt_at (i := 4) rfl) rfl rfl (List.all_eq_true.1 (by kernel_rfl))) (by (try simp only [List.length_append, List.length_cons, List.length_nil]); omega) (xcells_app xs ([(⟨X.at_, X.kd, X.da, X.dc, X.k0, X.k1, X.k2, X.k3, 7, 9, X.bs⟩ : Itm)])) (by first | (simp; done) | (simp only [List.length_append, List.length_cons, List.length_nil] <;> omega)) rfl (fun a_169 c_170 w_171 hs_172 => ?_)
                  have hs_172 : SH [] w w_171 [rowH 25 1 ao (out).length co (lcells out), allH (out.map (rowP 30)), pt g_34 #[.int .i64 X.at_, .int .i64 X.kd, .slice X.da X.bs.length X.dc, .int .i64 X.k0, .int .u8 X.k1, .bool X.k2, .bool X.k3, .int .i64 7, .int .i64 9] 30, pt g_166 #[.int .i64 X.at_, .int .i64 X.kd, .slice X.da X.bs.length X.dc, .int .i64 X.k0, .int .u8 X.k1, .bool X.k2, .bool X.k3, .int .i64 7, .int .i64 9] 30, rowH 30 9 a_169 (xs ++ [(⟨X.at_, X.kd, X.da, X.dc, X.k0, X.k1, X.k2, X.k3, 7, 9, X.bs⟩ : Itm)]).length c_170 (xcells (xs ++ [(⟨X.at_, X.kd, X.da, X.dc, X.k0, X.k1, X.k2, X.k3, 7, 9, X.bs⟩ : Itm)]))] := hs_172
                  refine SL.v (.slice a_169 ((xs ++ [(⟨X.at_, X.kd, X.da, X.dc, X.k0, X.k1, X.k2, X.k3, 7, 9, X.bs⟩ : Itm)]).length) c_170) ?_
                  refine SL.nil ?_
                  refine CW.region ?_
                  refine SL.v (.int .i64 ((j : Nat) : Int)) ?_
                  refine SL.val (v := .int .i64 ((j + 1 : Nat) : Int)) (w' := w_171) rfl rfl (by have hw : IntKind.i64.wrap (((j : Nat) : Int) + 1) = ((j + 1 : Nat) : Int) := (IntWalk.i64_in _ (by omega)).trans (by omega); exact run_eqv (by kernel_rfl) (congrArg (fun z => Value.int .i64 z) hw)) ?_
                  refine SL.v (.int .i64 ((j + 1 : Nat) : Int)) ?_
                  refine SL.nil ?_
                  have hx9_ : xs ++ [(⟨X.at_, X.kd, X.da, X.dc, X.k0, X.k1, X.k2, X.k3, 7, 9, X.bs⟩ : Itm)] = (E.xs.take (j + 1)).map fewX := by
                    have hf_ : fewS X = true := by unfold fewS; rw [hb_116, hb_160, hb_161]; rfl
                    rw [few_takex (by omega), List.map_append, ← hxs, ← hX]
                    congr 1
                    show [_] = [fewX X]
                    unfold fewX
                    rw [hf_, if_neg (by omega)]
                    rfl
                  exact ⟨_, ⟨j + 1, xs ++ [(⟨X.at_, X.kd, X.da, X.dc, X.k0, X.k1, X.k2, X.k3, 7, 9, X.bs⟩ : Itm)], a_169, c_170, rfl, (hs_172.pick [0, 0, 2] rfl), (by omega), (by omega), hx9_, (by kernel_rfl), (by kernel_rfl), (by kernel_rfl), (by kernel_rfl), (by kernel_rfl), (by kernel_rfl), (by kernel_rfl), (by kernel_rfl), (by kernel_rfl)⟩, by omega⟩
                · try rw [hb_161]
                  have hqhb_161 := of_decide_eq_false hb_161
                  refine CW.cond_false (by kernel_rfl) ?_
                  refine CW.skip ?_
                  refine CW.region ?_
                  refine SL.v (.slice ai ((xs).length) ci) ?_
                  refine SL.load (g := g_34) (off := 0) (v := .agg #[.int .i64 X.at_, .int .i64 X.kd, .slice X.da X.bs.length X.dc, .int .i64 X.k0, .int .u8 X.k1, .bool X.k2, .bool X.k3, .int .i64 X.rw_, .int .i64 X.cl]) rfl rfl rfl (by kernel_rfl) (hs_38.pt_at (i := 3) rfl) (by kernel_rfl) ?_
                  refine SL.newH (mk := fun g => .slice (some ⟨g, 0, none⟩) 1 1) (C := #[.int .i64 X.at_, .int .i64 X.kd, .slice X.da X.bs.length X.dc, .int .i64 X.k0, .int .u8 X.k1, .bool X.k2, .bool X.k3, .int .i64 X.rw_, .int .i64 X.cl]) (T := 30) hs_38 rfl rfl (by kernel_rfl) (fun g_174 w_175 hs_176 => ?_)
                  have hs_176 : SH [] w w_175 [rowH 25 1 ao (out).length co (lcells out), allH (out.map (rowP 30)), rowH 30 9 ai (xs).length ci (xcells xs), pt g_34 #[.int .i64 X.at_, .int .i64 X.kd, .slice X.da X.bs.length X.dc, .int .i64 X.k0, .int .u8 X.k1, .bool X.k2, .bool X.k3, .int .i64 X.rw_, .int .i64 X.cl] 30, pt g_174 #[.int .i64 X.at_, .int .i64 X.kd, .slice X.da X.bs.length X.dc, .int .i64 X.k0, .int .u8 X.k1, .bool X.k2, .bool X.k3, .int .i64 X.rw_, .int .i64 X.cl] 30] := hs_176
                  refine SL.appR (z := .agg #[.int .i64 0, .int .i64 0, .slice none 0 0, .int .i64 0, .int .u8 0, .bool false, .bool false, .int .i64 0, .int .i64 0]) (size := 9) (bytes := 72) (el := 30) (m := 1) (news := [.int .i64 X.at_, .int .i64 X.kd, .slice X.da X.bs.length X.dc, .int .i64 X.k0, .int .u8 X.k1, .bool X.k2, .bool X.k3, .int .i64 X.rw_, .int .i64 X.cl]) (i := 2) (xs' := xcells (xs ++ [(⟨X.at_, X.kd, X.da, X.dc, X.k0, X.k1, X.k2, X.k3, X.rw_, X.cl, X.bs⟩ : Itm)])) (k' := (xs ++ [(⟨X.at_, X.kd, X.da, X.dc, X.k0, X.k1, X.k2, X.k3, X.rw_, X.cl, X.bs⟩ : Itm)]).length) (L' := [rowH 25 1 ao (out).length co (lcells out), allH (out.map (rowP 30)), pt g_34 #[.int .i64 X.at_, .int .i64 X.kd, .slice X.da X.bs.length X.dc, .int .i64 X.k0, .int .u8 X.k1, .bool X.k2, .bool X.k3, .int .i64 X.rw_, .int .i64 X.cl] 30, pt g_174 #[.int .i64 X.at_, .int .i64 X.kd, .slice X.da X.bs.length X.dc, .int .i64 X.k0, .int .u8 X.k1, .bool X.k2, .bool X.k3, .int .i64 X.rw_, .int .i64 X.cl] 30]) hs_176 rfl rfl rfl (by kernel_rfl) (by kernel_rfl) (by kernel_rfl) (by kernel_rfl) (by kernel_rfl) (by kernel_rfl) rfl rfl (srcH (off := 0) (cs := [.int .i64 X.at_, .int .i64 X.kd, .slice X.da X.bs.length X.dc, .int .i64 X.k0, .int .u8 X.k1, .bool X.k2, .bool X.k3, .int .i64 X.rw_, .int .i64 X.cl]) (el := 30) (by kernel_rfl) (hs_176.pt_at (i := 4) rfl) rfl rfl (List.all_eq_true.1 (by kernel_rfl))) (by (try simp only [List.length_append, List.length_cons, List.length_nil]); omega) (xcells_app xs ([(⟨X.at_, X.kd, X.da, X.dc, X.k0, X.k1, X.k2, X.k3, X.rw_, X.cl, X.bs⟩ : Itm)])) (by first | (simp; done) | (simp only [List.length_append, List.length_cons, List.length_nil] <;> omega)) rfl (fun a_177 c_178 w_179 hs_180 => ?_)
                  have hs_180 : SH [] w w_179 [rowH 25 1 ao (out).length co (lcells out), allH (out.map (rowP 30)), pt g_34 #[.int .i64 X.at_, .int .i64 X.kd, .slice X.da X.bs.length X.dc, .int .i64 X.k0, .int .u8 X.k1, .bool X.k2, .bool X.k3, .int .i64 X.rw_, .int .i64 X.cl] 30, pt g_174 #[.int .i64 X.at_, .int .i64 X.kd, .slice X.da X.bs.length X.dc, .int .i64 X.k0, .int .u8 X.k1, .bool X.k2, .bool X.k3, .int .i64 X.rw_, .int .i64 X.cl] 30, rowH 30 9 a_177 (xs ++ [(⟨X.at_, X.kd, X.da, X.dc, X.k0, X.k1, X.k2, X.k3, X.rw_, X.cl, X.bs⟩ : Itm)]).length c_178 (xcells (xs ++ [(⟨X.at_, X.kd, X.da, X.dc, X.k0, X.k1, X.k2, X.k3, X.rw_, X.cl, X.bs⟩ : Itm)]))] := hs_180
                  refine SL.v (.slice a_177 ((xs ++ [(⟨X.at_, X.kd, X.da, X.dc, X.k0, X.k1, X.k2, X.k3, X.rw_, X.cl, X.bs⟩ : Itm)]).length) c_178) ?_
                  refine SL.nil ?_
                  refine CW.region ?_
                  refine SL.v (.int .i64 ((j : Nat) : Int)) ?_
                  refine SL.val (v := .int .i64 ((j + 1 : Nat) : Int)) (w' := w_179) rfl rfl (by have hw : IntKind.i64.wrap (((j : Nat) : Int) + 1) = ((j + 1 : Nat) : Int) := (IntWalk.i64_in _ (by omega)).trans (by omega); exact run_eqv (by kernel_rfl) (congrArg (fun z => Value.int .i64 z) hw)) ?_
                  refine SL.v (.int .i64 ((j + 1 : Nat) : Int)) ?_
                  refine SL.nil ?_
                  have hx9_ : xs ++ [(⟨X.at_, X.kd, X.da, X.dc, X.k0, X.k1, X.k2, X.k3, X.rw_, X.cl, X.bs⟩ : Itm)] = (E.xs.take (j + 1)).map fewX := by
                    have hf_ : fewS X = false := by unfold fewS; rw [hb_116, hb_160, hb_161]; rfl
                    rw [few_takex (by omega), List.map_append, ← hxs, ← hX]
                    congr 1
                    show [_] = [fewX X]
                    unfold fewX
                    rw [hf_, if_neg (by omega)]
                    rfl
                  exact ⟨_, ⟨j + 1, xs ++ [(⟨X.at_, X.kd, X.da, X.dc, X.k0, X.k1, X.k2, X.k3, X.rw_, X.cl, X.bs⟩ : Itm)], a_177, c_178, rfl, (hs_180.pick [0, 0, 2] rfl), (by omega), (by omega), hx9_, (by kernel_rfl), (by kernel_rfl), (by kernel_rfl), (by kernel_rfl), (by kernel_rfl), (by kernel_rfl), (by kernel_rfl), (by kernel_rfl), (by kernel_rfl)⟩, by omega⟩
              · try rw [hb_160]
                have hqhb_160 := of_decide_eq_false hb_160
                refine SL.no false ?_
                refine SL.no false ?_
                refine SL.no false ?_
                refine SL.go ?_
                refine SL.v (.bool false) ?_
                refine SL.v (.bool false) ?_
                refine SL.nil ?_
                refine CW.cond_false (by kernel_rfl) ?_
                refine CW.skip ?_
                refine CW.region ?_
                refine SL.v (.slice ai ((xs).length) ci) ?_
                refine SL.load (g := g_34) (off := 0) (v := .agg #[.int .i64 X.at_, .int .i64 X.kd, .slice X.da X.bs.length X.dc, .int .i64 X.k0, .int .u8 X.k1, .bool X.k2, .bool X.k3, .int .i64 X.rw_, .int .i64 X.cl]) rfl rfl rfl (by kernel_rfl) (hs_38.pt_at (i := 3) rfl) (by kernel_rfl) ?_
                refine SL.newH (mk := fun g => .slice (some ⟨g, 0, none⟩) 1 1) (C := #[.int .i64 X.at_, .int .i64 X.kd, .slice X.da X.bs.length X.dc, .int .i64 X.k0, .int .u8 X.k1, .bool X.k2, .bool X.k3, .int .i64 X.rw_, .int .i64 X.cl]) (T := 30) hs_38 rfl rfl (by kernel_rfl) (fun g_182 w_183 hs_184 => ?_)
                have hs_184 : SH [] w w_183 [rowH 25 1 ao (out).length co (lcells out), allH (out.map (rowP 30)), rowH 30 9 ai (xs).length ci (xcells xs), pt g_34 #[.int .i64 X.at_, .int .i64 X.kd, .slice X.da X.bs.length X.dc, .int .i64 X.k0, .int .u8 X.k1, .bool X.k2, .bool X.k3, .int .i64 X.rw_, .int .i64 X.cl] 30, pt g_182 #[.int .i64 X.at_, .int .i64 X.kd, .slice X.da X.bs.length X.dc, .int .i64 X.k0, .int .u8 X.k1, .bool X.k2, .bool X.k3, .int .i64 X.rw_, .int .i64 X.cl] 30] := hs_184
                refine SL.appR (z := .agg #[.int .i64 0, .int .i64 0, .slice none 0 0, .int .i64 0, .int .u8 0, .bool false, .bool false, .int .i64 0, .int .i64 0]) (size := 9) (bytes := 72) (el := 30) (m := 1) (news := [.int .i64 X.at_, .int .i64 X.kd, .slice X.da X.bs.length X.dc, .int .i64 X.k0, .int .u8 X.k1, .bool X.k2, .bool X.k3, .int .i64 X.rw_, .int .i64 X.cl]) (i := 2) (xs' := xcells (xs ++ [(⟨X.at_, X.kd, X.da, X.dc, X.k0, X.k1, X.k2, X.k3, X.rw_, X.cl, X.bs⟩ : Itm)])) (k' := (xs ++ [(⟨X.at_, X.kd, X.da, X.dc, X.k0, X.k1, X.k2, X.k3, X.rw_, X.cl, X.bs⟩ : Itm)]).length) (L' := [rowH 25 1 ao (out).length co (lcells out), allH (out.map (rowP 30)), pt g_34 #[.int .i64 X.at_, .int .i64 X.kd, .slice X.da X.bs.length X.dc, .int .i64 X.k0, .int .u8 X.k1, .bool X.k2, .bool X.k3, .int .i64 X.rw_, .int .i64 X.cl] 30, pt g_182 #[.int .i64 X.at_, .int .i64 X.kd, .slice X.da X.bs.length X.dc, .int .i64 X.k0, .int .u8 X.k1, .bool X.k2, .bool X.k3, .int .i64 X.rw_, .int .i64 X.cl] 30]) hs_184 rfl rfl rfl (by kernel_rfl) (by kernel_rfl) (by kernel_rfl) (by kernel_rfl) (by kernel_rfl) (by kernel_rfl) rfl rfl (srcH (off := 0) (cs := [.int .i64 X.at_, .int .i64 X.kd, .slice X.da X.bs.length X.dc, .int .i64 X.k0, .int .u8 X.k1, .bool X.k2, .bool X.k3, .int .i64 X.rw_, .int .i64 X.cl]) (el := 30) (by kernel_rfl) (hs_184.pt_at (i := 4) rfl) rfl rfl (List.all_eq_true.1 (by kernel_rfl))) (by (try simp only [List.length_append, List.length_cons, List.length_nil]); omega) (xcells_app xs ([(⟨X.at_, X.kd, X.da, X.dc, X.k0, X.k1, X.k2, X.k3, X.rw_, X.cl, X.bs⟩ : Itm)])) (by first | (simp; done) | (simp only [List.length_append, List.length_cons, List.length_nil] <;> omega)) rfl (fun a_185 c_186 w_187 hs_188 => ?_)
                have hs_188 : SH [] w w_187 [rowH 25 1 ao (out).length co (lcells out), allH (out.map (rowP 30)), pt g_34 #[.int .i64 X.at_, .int .i64 X.kd, .slice X.da X.bs.length X.dc, .int .i64 X.k0, .int .u8 X.k1, .bool X.k2, .bool X.k3, .int .i64 X.rw_, .int .i64 X.cl] 30, pt g_182 #[.int .i64 X.at_, .int .i64 X.kd, .slice X.da X.bs.length X.dc, .int .i64 X.k0, .int .u8 X.k1, .bool X.k2, .bool X.k3, .int .i64 X.rw_, .int .i64 X.cl] 30, rowH 30 9 a_185 (xs ++ [(⟨X.at_, X.kd, X.da, X.dc, X.k0, X.k1, X.k2, X.k3, X.rw_, X.cl, X.bs⟩ : Itm)]).length c_186 (xcells (xs ++ [(⟨X.at_, X.kd, X.da, X.dc, X.k0, X.k1, X.k2, X.k3, X.rw_, X.cl, X.bs⟩ : Itm)]))] := hs_188
                refine SL.v (.slice a_185 ((xs ++ [(⟨X.at_, X.kd, X.da, X.dc, X.k0, X.k1, X.k2, X.k3, X.rw_, X.cl, X.bs⟩ : Itm)]).length) c_186) ?_
                refine SL.nil ?_
                refine CW.region ?_
                refine SL.v (.int .i64 ((j : Nat) : Int)) ?_
                refine SL.val (v := .int .i64 ((j + 1 : Nat) : Int)) (w' := w_187) rfl rfl (by have hw : IntKind.i64.wrap (((j : Nat) : Int) + 1) = ((j + 1 : Nat) : Int) := (IntWalk.i64_in _ (by omega)).trans (by omega); exact run_eqv (by kernel_rfl) (congrArg (fun z => Value.int .i64 z) hw)) ?_
                refine SL.v (.int .i64 ((j + 1 : Nat) : Int)) ?_
                refine SL.nil ?_
                have hx9_ : xs ++ [(⟨X.at_, X.kd, X.da, X.dc, X.k0, X.k1, X.k2, X.k3, X.rw_, X.cl, X.bs⟩ : Itm)] = (E.xs.take (j + 1)).map fewX := by
                  have hf_ : fewS X = false := by unfold fewS; rw [hb_116, hb_160]; rfl
                  rw [few_takex (by omega), List.map_append, ← hxs, ← hX]
                  congr 1
                  show [_] = [fewX X]
                  unfold fewX
                  rw [hf_, if_neg (by omega)]
                  rfl
                exact ⟨_, ⟨j + 1, xs ++ [(⟨X.at_, X.kd, X.da, X.dc, X.k0, X.k1, X.k2, X.k3, X.rw_, X.cl, X.bs⟩ : Itm)], a_185, c_186, rfl, (hs_188.pick [0, 0, 2] rfl), (by omega), (by omega), hx9_, (by kernel_rfl), (by kernel_rfl), (by kernel_rfl), (by kernel_rfl), (by kernel_rfl), (by kernel_rfl), (by kernel_rfl), (by kernel_rfl), (by kernel_rfl)⟩, by omega⟩
        · try rw [hb_33]
          have hqhb_33 := of_decide_eq_false hb_33
          refine CW.cond_false (by kernel_rfl) ?_
          refine CW.exit ?_
          repeat with_reducible first | refine PThen.exit ?_ | refine PBlock.out rfl ?_
          with_reducible refine PBlock.here ?_
          repeat with_reducible refine PBlock.normal ?_
          refine CW.region ?_
          refine SL.v (.slice ao ((out).length) co) ?_
          refine SL.v (.slice ai ((xs).length) ci) ?_
          refine SL.newH (mk := fun g => .slice (some ⟨g, 0, none⟩) 1 1) (C := #[.slice ai ((xs).length) ci]) (T := 25) hs_20 rfl rfl (by kernel_rfl) (fun g_190 w_191 hs_192 => ?_)
          have hs_192 : SH [] w w_191 [rowH 25 1 ao (out).length co (lcells out), allH (out.map (rowP 30)), rowH 30 9 ai (xs).length ci (xcells xs), pt g_190 #[.slice ai ((xs).length) ci] 25] := hs_192
          refine SL.appR (z := .slice none 0 0) (size := 1) (bytes := 24) (el := 25) (m := 1) (news := [.slice ai ((xs).length) ci]) (i := 0) (xs' := lcells (out ++ [(⟨ai, ci, xs⟩ : LE)])) (k' := (out ++ [(⟨ai, ci, xs⟩ : LE)]).length) (L' := [allH (out.map (rowP 30)), rowH 30 9 ai (xs).length ci (xcells xs), pt g_190 #[.slice ai ((xs).length) ci] 25]) hs_192 rfl rfl rfl (by kernel_rfl) (by kernel_rfl) (by kernel_rfl) (by kernel_rfl) (by kernel_rfl) (by kernel_rfl) rfl rfl (srcH (off := 0) (cs := [.slice ai ((xs).length) ci]) (el := 25) (by kernel_rfl) (hs_192.pt_at (i := 3) rfl) rfl rfl (List.all_eq_true.1 (by kernel_rfl))) (by (try simp only [List.length_append, List.length_cons, List.length_nil]); omega) (lcells_app out ([(⟨ai, ci, xs⟩ : LE)])) (by first | (simp; done) | (simp only [List.length_append, List.length_cons, List.length_nil] <;> omega)) rfl (fun a_193 c_194 w_195 hs_196 => ?_)
          have hs_196 : SH [] w w_195 [allH (out.map (rowP 30)), rowH 30 9 ai (xs).length ci (xcells xs), pt g_190 #[.slice ai ((xs).length) ci] 25, rowH 25 1 a_193 (out ++ [(⟨ai, ci, xs⟩ : LE)]).length c_194 (lcells (out ++ [(⟨ai, ci, xs⟩ : LE)]))] := hs_196
          refine SL.v (.slice a_193 ((out ++ [(⟨ai, ci, xs⟩ : LE)]).length) c_194) ?_
          refine SL.nil ?_
          refine CW.region ?_
          refine SL.v (.int .i64 ((k : Nat) : Int)) ?_
          refine SL.val (v := .int .i64 ((k + 1 : Nat) : Int)) (w' := w_195) rfl rfl (by have hw : IntKind.i64.wrap (((k : Nat) : Int) + 1) = ((k + 1 : Nat) : Int) := (IntWalk.i64_in _ (by omega)).trans (by omega); exact run_eqv (by kernel_rfl) (congrArg (fun z => Value.int .i64 z) hw)) ?_
          refine SL.v (.int .i64 ((k + 1 : Nat) : Int)) ?_
          refine SL.nil ?_
          have hxe9 : xs = fewL E := by
            rw [hxs]; unfold fewL
            by_cases h_ : j = 12
            · rw [h_]
            · rw [List.take_of_length_le (by omega), List.take_of_length_le (by omega)]
          obtain ⟨Q_, hQ_, hs_198⟩ := hs_196.ent (is := [0, 0]) rfl (allH_push (out.map (rowP 30)) (rowP 30 ⟨ai, ci, xs⟩))
          subst hQ_
          have hs_199 : SH [] w w_195 [allH ((out ++ [(⟨ai, ci, xs⟩ : LE)]).map (rowP 30)), pt g_190 #[.slice ai ((xs).length) ci] 25, rowH 25 1 a_193 (out ++ [(⟨ai, ci, xs⟩ : LE)]).length c_194 (lcells (out ++ [(⟨ai, ci, xs⟩ : LE)]))] := by have h_ := hs_198; simp only [List.map_append, List.map_cons, List.map_nil]; exact h_
          exact ⟨_, ⟨k + 1, out ++ [(⟨ai, ci, xs⟩ : LE)], a_193, c_194, rfl, (hs_199.pick [2, 0] rfl), (by omega), (by omega), (by rw [few_take (by omega), List.map_append, List.map_append, hsp, ← hE]; show _ ++ [xs] = _ ++ [fewL E]; rw [hxe9]), (by kernel_rfl), (by kernel_rfl), (by kernel_rfl), (by kernel_rfl)⟩, by omega⟩
      · try rw [hb_32]
        have hqhb_32 := of_decide_eq_false hb_32
        refine SL.no false ?_
        refine SL.no false ?_
        refine SL.v (.bool false) ?_
        refine SL.nil ?_
        refine CW.cond_false (by kernel_rfl) ?_
        refine CW.exit ?_
        repeat with_reducible first | refine PThen.exit ?_ | refine PBlock.out rfl ?_
        with_reducible refine PBlock.here ?_
        repeat with_reducible refine PBlock.normal ?_
        refine CW.region ?_
        refine SL.v (.slice ao ((out).length) co) ?_
        refine SL.v (.slice ai ((xs).length) ci) ?_
        refine SL.newH (mk := fun g => .slice (some ⟨g, 0, none⟩) 1 1) (C := #[.slice ai ((xs).length) ci]) (T := 25) hs_20 rfl rfl (by kernel_rfl) (fun g_200 w_201 hs_202 => ?_)
        have hs_202 : SH [] w w_201 [rowH 25 1 ao (out).length co (lcells out), allH (out.map (rowP 30)), rowH 30 9 ai (xs).length ci (xcells xs), pt g_200 #[.slice ai ((xs).length) ci] 25] := hs_202
        refine SL.appR (z := .slice none 0 0) (size := 1) (bytes := 24) (el := 25) (m := 1) (news := [.slice ai ((xs).length) ci]) (i := 0) (xs' := lcells (out ++ [(⟨ai, ci, xs⟩ : LE)])) (k' := (out ++ [(⟨ai, ci, xs⟩ : LE)]).length) (L' := [allH (out.map (rowP 30)), rowH 30 9 ai (xs).length ci (xcells xs), pt g_200 #[.slice ai ((xs).length) ci] 25]) hs_202 rfl rfl rfl (by kernel_rfl) (by kernel_rfl) (by kernel_rfl) (by kernel_rfl) (by kernel_rfl) (by kernel_rfl) rfl rfl (srcH (off := 0) (cs := [.slice ai ((xs).length) ci]) (el := 25) (by kernel_rfl) (hs_202.pt_at (i := 3) rfl) rfl rfl (List.all_eq_true.1 (by kernel_rfl))) (by (try simp only [List.length_append, List.length_cons, List.length_nil]); omega) (lcells_app out ([(⟨ai, ci, xs⟩ : LE)])) (by first | (simp; done) | (simp only [List.length_append, List.length_cons, List.length_nil] <;> omega)) rfl (fun a_203 c_204 w_205 hs_206 => ?_)
        have hs_206 : SH [] w w_205 [allH (out.map (rowP 30)), rowH 30 9 ai (xs).length ci (xcells xs), pt g_200 #[.slice ai ((xs).length) ci] 25, rowH 25 1 a_203 (out ++ [(⟨ai, ci, xs⟩ : LE)]).length c_204 (lcells (out ++ [(⟨ai, ci, xs⟩ : LE)]))] := hs_206
        refine SL.v (.slice a_203 ((out ++ [(⟨ai, ci, xs⟩ : LE)]).length) c_204) ?_
        refine SL.nil ?_
        refine CW.region ?_
        refine SL.v (.int .i64 ((k : Nat) : Int)) ?_
        refine SL.val (v := .int .i64 ((k + 1 : Nat) : Int)) (w' := w_205) rfl rfl (by have hw : IntKind.i64.wrap (((k : Nat) : Int) + 1) = ((k + 1 : Nat) : Int) := (IntWalk.i64_in _ (by omega)).trans (by omega); exact run_eqv (by kernel_rfl) (congrArg (fun z => Value.int .i64 z) hw)) ?_
        refine SL.v (.int .i64 ((k + 1 : Nat) : Int)) ?_
        refine SL.nil ?_
        have hxe9 : xs = fewL E := by
          rw [hxs]; unfold fewL
          by_cases h_ : j = 12
          · rw [h_]
          · rw [List.take_of_length_le (by omega), List.take_of_length_le (by omega)]
        obtain ⟨Q_, hQ_, hs_208⟩ := hs_206.ent (is := [0, 0]) rfl (allH_push (out.map (rowP 30)) (rowP 30 ⟨ai, ci, xs⟩))
        subst hQ_
        have hs_209 : SH [] w w_205 [allH ((out ++ [(⟨ai, ci, xs⟩ : LE)]).map (rowP 30)), pt g_200 #[.slice ai ((xs).length) ci] 25, rowH 25 1 a_203 (out ++ [(⟨ai, ci, xs⟩ : LE)]).length c_204 (lcells (out ++ [(⟨ai, ci, xs⟩ : LE)]))] := by have h_ := hs_208; simp only [List.map_append, List.map_cons, List.map_nil]; exact h_
        exact ⟨_, ⟨k + 1, out ++ [(⟨ai, ci, xs⟩ : LE)], a_203, c_204, rfl, (hs_209.pick [2, 0] rfl), (by omega), (by omega), (by rw [few_take (by omega), List.map_append, List.map_append, hsp, ← hE]; show _ ++ [xs] = _ ++ [fewL E]; rw [hxe9]), (by kernel_rfl), (by kernel_rfl), (by kernel_rfl), (by kernel_rfl)⟩, by omega⟩
    · try rw [hb_14]
      have hqhb_14 := of_decide_eq_false hb_14
      refine CW.cond_false (by kernel_rfl) ?_
      refine CW.exit ?_
      repeat with_reducible first | refine PThen.exit ?_ | refine PBlock.out rfl ?_
      with_reducible refine PBlock.here ?_
      repeat with_reducible refine PBlock.normal ?_
      refine CW.seq ?_
      refine CW.region ?_
      refine SL.v (.slice ao ((out).length) co) ?_
      refine SL.v (.slice ao ((out).length) co) ?_
      refine SL.nil ?_
      refine CW.ret ?_
      repeat with_reducible first | refine PThen.ret ?_ | refine PBlock.ret ?_
      refine PRet.tmp (t := 2) (v := .slice ao ((out).length) co) rfl rfl (by kernel_rfl) ?_
      have hk9_ : Ls.take k = Ls.take 8 := by by_cases h_ : k = 8; rw [h_]; rw [List.take_of_length_le (by omega), List.take_of_length_le (by omega)]
      rw [hk9_] at hsp
      exact ⟨out, ao, co, rfl, hsp, hs_6.pick [0, 0] rfl⟩
  · try rw [hb_13]
    have hqhb_13 := of_decide_eq_false hb_13
    refine SL.no false ?_
    refine SL.no false ?_
    refine SL.v (.bool false) ?_
    refine SL.nil ?_
    refine CW.cond_false (by kernel_rfl) ?_
    refine CW.exit ?_
    repeat with_reducible first | refine PThen.exit ?_ | refine PBlock.out rfl ?_
    with_reducible refine PBlock.here ?_
    repeat with_reducible refine PBlock.normal ?_
    refine CW.seq ?_
    refine CW.region ?_
    refine SL.v (.slice ao ((out).length) co) ?_
    refine SL.v (.slice ao ((out).length) co) ?_
    refine SL.nil ?_
    refine CW.ret ?_
    repeat with_reducible first | refine PThen.ret ?_ | refine PBlock.ret ?_
    refine PRet.tmp (t := 2) (v := .slice ao ((out).length) co) rfl rfl (by kernel_rfl) ?_
    have hk9_ : Ls.take k = Ls.take 8 := by by_cases h_ : k = 8; rw [h_]; rw [List.take_of_length_le (by omega), List.take_of_length_le (by omega)]
    rw [hk9_] at hsp
    exact ⟨out, ao, co, rfl, hsp, hs_6.pick [0, 0] rfl⟩
end Go.Proofs.Ytaelmkkobjdgbaa
