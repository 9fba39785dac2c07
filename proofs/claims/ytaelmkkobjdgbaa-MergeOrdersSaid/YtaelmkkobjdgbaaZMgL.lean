/-
  own, walked (gen_mgl.py).
-/
import Derived.Test.YtaelmkkobjdgbaaZMgK
namespace Go.Proofs.Ytaelmkkobjdgbaa
set_option linter.unusedSimpArgs false
set_option linter.unusedVariables false
open Go.RowKit
set_option linter.unusedVariables false

def Itm.bare (x : Itm) : Itm := x.with none 0
def bareL (e : LE) : List Itm := e.xs.map Itm.bare
/-- An item's own data. -/
def clX (y : Itm) : HA := rowH 5 1 y.da y.bs.length y.dc (bcells y.bs)
def clL (e : LE) : HA := allH (e.xs.map clX)
theorem own25_tr (x : Itm) (w : World) (hd : DataAt w x.da x.dc x.bs) (hl : x.bs.length ≤ 1000000) : Tr Try.prog 17 #[.agg (itC x).toArray] w [] (fun v Q => ∃ a c, v = .agg (itC (x.with a c)).toArray ∧ Q = [clX (x.with a c)]) :=
  Tr.of0 ((own25_any x w hd hl).mono fun e w' h => by
    obtain ⟨a, c, rfl, hs⟩ := h
    exact ⟨_, _, rfl, ⟨a, c, rfl, rfl⟩, hs⟩)
set_option maxRecDepth 100000 in
set_option maxHeartbeats 8000000 in
theorem own_any (sa : Option Addr) (sc : Nat) (Ls : List LE) (w : World) (hOut : OutAt w sa Ls) (hLF : LF Ls w) (hbig : Ls.length ≤ 1000000) (hbig2 : ∀ e ∈ Ls, e.xs.length ≤ 1000000) (hbs : ∀ e ∈ Ls, ∀ x ∈ e.xs, x.bs.length ≤ 1000000) : Calls Try.prog 8 #[.slice sa Ls.length sc] w fun e w' => ∃ out ao co, e = .returned (.slice ao out.length co) ∧ out.map bareL = Ls.map bareL ∧ SH [] w w' [rowH 49 1 ao out.length co (lcells out), allH (out.map (rowP 37)), allH (out.map clL)] := by
  refine calls_sx (n := 33) (args := [.slice sa Ls.length sc]) Try.func8 rfl rfl rfl ?_
  have hs0 := SH.none w
  refine CW.seq ?_
  refine CW.region ?_
  refine SL.v (.slice none 0 0) ?_
  refine SL.nil ?_
  refine CW.seq ?_
  refine CW.region ?_
  refine SL.v (.slice none 0 0) ?_
  refine SL.nil ?_
  refine CW.seq ?_
  refine CW.seq ?_
  refine CW.region ?_
  refine SL.v (.slice sa Ls.length sc) ?_
  refine SL.val (v := .int .i64 ((Ls.length : Nat) : Int)) (w' := w) rfl rfl (by kernel_rfl) ?_
  refine SL.v (.int .i64 0) ?_
  refine SL.nil ?_
  refine CW.block ?_
  have hs_1 := ((hs0.row0 49 1).all0).all0
  have hs_2 : SH [] w w [rowH 49 1 none (([] : List LE)).length 0 (lcells ([] : List LE)), allH (([] : List LE).map (rowP 37)), allH (([] : List LE).map clL)] := hs_1
  refine CW.loopI (fun m_ e9 w9 => ∃ (k : Nat), ∃ (out : List LE), ∃ (ao : Option Addr), ∃ (co : Nat), m_ = Ls.length - k ∧ SH [] w w9 [rowH 49 1 ao (out).length co (lcells out), allH (out.map (rowP 37)), allH (out.map clL)] ∧ (k ≤ Ls.length) ∧ (out.map bareL = (Ls.take k).map bareL) ∧ e9 2 = .slice none 0 0 ∧ e9 3 = .slice ao ((out).length) co ∧ e9 9 = .slice sa Ls.length sc ∧ e9 10 = .int .i64 ((Ls.length : Nat) : Int) ∧ e9 11 = .int .i64 ((k : Nat) : Int)) ⟨_, 0, [], none, 0, rfl, hs_2, (Nat.zero_le _), rfl, (by kernel_rfl), (by kernel_rfl), (by kernel_rfl), (by kernel_rfl), (by kernel_rfl)⟩ ?_
  rintro m_3 e_4 w_5 ⟨k, out, ao, co, hm_7, hs_6, hk, hsp, hv_8, hv_9, hv_10, hv_11, hv_12⟩
  obtain ⟨e_13, rfl⟩ : ∃ e_13, e_4 = put1 (put1 (put1 (put1 (put1 e_13 2 (.slice none 0 0)) 3 (.slice ao ((out).length) co)) 9 (.slice sa Ls.length sc)) 10 (.int .i64 ((Ls.length : Nat) : Int))) 11 (.int .i64 ((k : Nat) : Int)) := ⟨e_4, (put_self hv_12).trans (congrArg (fun z => put1 z 11 (.int .i64 ((k : Nat) : Int))) ((put_self hv_11).trans (congrArg (fun z => put1 z 10 (.int .i64 ((Ls.length : Nat) : Int))) ((put_self hv_10).trans (congrArg (fun z => put1 z 9 (.slice sa Ls.length sc)) ((put_self hv_9).trans (congrArg (fun z => put1 z 3 (.slice ao ((out).length) co)) (put_self hv_8))))))))⟩
  clear hv_8 hv_9 hv_10 hv_11 hv_12
  obtain ⟨E, hE⟩ : ∃ E, E = Ls.getD k le0 := ⟨_, rfl⟩
  have hol9 : out.length = k := by have h_ := congrArg List.length hsp; rw [List.length_map, List.length_map, List.length_take] at h_; omega
  have hbE9 : k < Ls.length → E.xs.length ≤ 1000000 := fun h => by rw [hE]; exact hbig2 _ (getD_mem h)
  refine CW.seq ?_
  refine CW.region ?_
  refine SL.v (.bool (decide (((k : Nat) : Int) < ((Ls.length : Nat) : Int)))) ?_
  refine SL.nil ?_
  refine CW.seq ?_
  rcases Bool.eq_false_or_eq_true (decide (((k : Nat) : Int) < ((Ls.length : Nat) : Int))) with hb_14 | hb_14
  · try rw [hb_14]
    have hqhb_14 := of_decide_eq_true hb_14
    refine CW.cond_true (by kernel_rfl) ?_
    refine CW.skip ?_
    refine CW.seq ?_
    refine CW.block ?_
    refine CW.seq ?_
    refine CW.region ?_
    obtain ⟨sb, soff, sC, sT, sfr, hsa, hsb, hsrc⟩ := hOut (by omega)
    refine SL.val (v := .pointer (some ⟨sb, soff + k, none⟩)) (w' := w_5) rfl rfl ((run_ixS (len := Ls.length) (cap := sc) (q := .i64) (I := ((k : Nat) : Int)) (i := k) (size := 1) hsa rfl (by kernel_rfl) (by kernel_rfl) rfl (by kernel_rfl) (by kernel_rfl) (by omega)).trans (by rw [Nat.mul_one])) ?_
    refine SL.load (g := sb) (off := soff + k) (v := .slice E.a E.xs.length E.c) rfl rfl rfl (by kernel_rfl) (hs_6.gr.blk hsb) (ldV_one (by kernel_rfl) (by kernel_rfl) (by have h_ := hsrc k (by omega); rw [← hE] at h_; exact h_)) ?_
    refine SL.v (.slice E.a E.xs.length E.c) ?_
    refine SL.nil ?_
    refine CW.seq ?_
    refine CW.region ?_
    refine SL.v (.slice none 0 0) ?_
    refine SL.nil ?_
    refine CW.seq ?_
    refine CW.seq ?_
    refine CW.region ?_
    refine SL.v (.slice E.a E.xs.length E.c) ?_
    refine SL.val (v := .int .i64 ((E.xs.length : Nat) : Int)) (w' := w_5) rfl rfl (by kernel_rfl) ?_
    refine SL.v (.int .i64 0) ?_
    refine SL.nil ?_
    refine CW.block ?_
    have hs_15 := (hs_6.row0 37 9).all0
    have hs_16 : SH [] w w_5 [rowH 49 1 ao (out).length co (lcells out), allH (out.map (rowP 37)), allH (out.map clL), rowH 37 9 none (([] : List Itm)).length 0 (xcells ([] : List Itm)), allH (([] : List Itm).map clX)] := hs_15
    refine CW.loopI (fun m_ e9 w9 => ∃ (j : Nat), ∃ (xs : List Itm), ∃ (ai : Option Addr), ∃ (ci : Nat), m_ = E.xs.length - j ∧ SH [] w w9 [rowH 49 1 ao (out).length co (lcells out), allH (out.map (rowP 37)), allH (out.map clL), rowH 37 9 ai (xs).length ci (xcells xs), allH (xs.map clX)] ∧ (j ≤ E.xs.length) ∧ (xs.map Itm.bare = (E.xs.take j).map Itm.bare) ∧ e9 2 = .slice none 0 0 ∧ e9 3 = .slice ao ((out).length) co ∧ e9 5 = .slice E.a E.xs.length E.c ∧ e9 6 = .slice ai ((xs).length) ci ∧ e9 9 = .slice sa Ls.length sc ∧ e9 10 = .int .i64 ((Ls.length : Nat) : Int) ∧ e9 11 = .int .i64 ((k : Nat) : Int) ∧ e9 12 = .bool true ∧ e9 15 = .slice E.a E.xs.length E.c ∧ e9 16 = .int .i64 ((E.xs.length : Nat) : Int) ∧ e9 17 = .int .i64 ((j : Nat) : Int)) ⟨_, 0, [], none, 0, rfl, hs_16, (Nat.zero_le _), rfl, (by kernel_rfl), (by kernel_rfl), (by kernel_rfl), (by kernel_rfl), (by kernel_rfl), (by kernel_rfl), (by kernel_rfl), (by kernel_rfl), (by kernel_rfl), (by kernel_rfl), (by kernel_rfl)⟩ ?_
    rintro m_17 e_18 w_19 ⟨j, xs, ai, ci, hm_21, hs_20, hj, hxs, hv_22, hv_23, hv_24, hv_25, hv_26, hv_27, hv_28, hv_29, hv_30, hv_31, hv_32⟩
    obtain ⟨e_33, rfl⟩ : ∃ e_33, e_18 = put1 (put1 (put1 (put1 (put1 (put1 (put1 (put1 (put1 (put1 (put1 e_33 2 (.slice none 0 0)) 3 (.slice ao ((out).length) co)) 5 (.slice E.a E.xs.length E.c)) 6 (.slice ai ((xs).length) ci)) 9 (.slice sa Ls.length sc)) 10 (.int .i64 ((Ls.length : Nat) : Int))) 11 (.int .i64 ((k : Nat) : Int))) 12 (.bool true)) 15 (.slice E.a E.xs.length E.c)) 16 (.int .i64 ((E.xs.length : Nat) : Int))) 17 (.int .i64 ((j : Nat) : Int)) := ⟨e_18, (put_self hv_32).trans (congrArg (fun z => put1 z 17 (.int .i64 ((j : Nat) : Int))) ((put_self hv_31).trans (congrArg (fun z => put1 z 16 (.int .i64 ((E.xs.length : Nat) : Int))) ((put_self hv_30).trans (congrArg (fun z => put1 z 15 (.slice E.a E.xs.length E.c)) ((put_self hv_29).trans (congrArg (fun z => put1 z 12 (.bool true)) ((put_self hv_28).trans (congrArg (fun z => put1 z 11 (.int .i64 ((k : Nat) : Int))) ((put_self hv_27).trans (congrArg (fun z => put1 z 10 (.int .i64 ((Ls.length : Nat) : Int))) ((put_self hv_26).trans (congrArg (fun z => put1 z 9 (.slice sa Ls.length sc)) ((put_self hv_25).trans (congrArg (fun z => put1 z 6 (.slice ai ((xs).length) ci)) ((put_self hv_24).trans (congrArg (fun z => put1 z 5 (.slice E.a E.xs.length E.c)) ((put_self hv_23).trans (congrArg (fun z => put1 z 3 (.slice ao ((out).length) co)) (put_self hv_22))))))))))))))))))))⟩
    clear hv_22 hv_23 hv_24 hv_25 hv_26 hv_27 hv_28 hv_29 hv_30 hv_31 hv_32
    obtain ⟨X, hX⟩ : ∃ X, X = E.xs.getD j itm0 := ⟨_, rfl⟩
    have hXd : j < E.xs.length → k < Ls.length → DataAt w X.da X.dc X.bs ∧ X.bs.length ≤ 1000000 := fun h1 h2 => by rw [hX]; exact ⟨(hLF _ (getD_mem h2)).2 _ (by rw [← hE]; exact getDx_mem h1), hbs _ (getD_mem h2) _ (by rw [← hE]; exact getDx_mem h1)⟩
    have hxl9 : xs.length = j := by have h_ := congrArg List.length hxs; rw [List.length_map, List.length_map, List.length_take] at h_; omega
    refine CW.seq ?_
    refine CW.region ?_
    refine SL.v (.bool (decide (((j : Nat) : Int) < ((E.xs.length : Nat) : Int)))) ?_
    refine SL.nil ?_
    refine CW.seq ?_
    rcases Bool.eq_false_or_eq_true (decide (((j : Nat) : Int) < ((E.xs.length : Nat) : Int))) with hb_34 | hb_34
    · try rw [hb_34]
      have hqhb_34 := of_decide_eq_true hb_34
      refine CW.cond_true (by kernel_rfl) ?_
      refine CW.skip ?_
      refine CW.seq ?_
      refine CW.block ?_
      refine CW.seq ?_
      refine CW.region ?_
      obtain ⟨ib, ioff, hia, hir⟩ := (hLF _ (getD_mem (Ls := Ls) (k := k) (by omega))).1 (by rw [← hE]; omega)
      rw [← hE] at hia hir
      refine SL.val (v := .pointer (some ⟨ib, ioff + j * 9, none⟩)) (w' := w_19) rfl rfl (run_ixS (len := E.xs.length) (cap := E.c) (q := .i64) (I := ((j : Nat) : Int)) (i := j) (size := 9) hia rfl (by kernel_rfl) (by kernel_rfl) rfl (by kernel_rfl) (by kernel_rfl) (by omega)) ?_
      refine SL.load (g := ib) (off := ioff + j * 9) (v := .agg #[.int .i64 X.at_, .int .i64 X.kd, .slice X.da X.bs.length X.dc, .int .i64 X.k0, .int .u8 X.k1, .bool X.k2, .bool X.k3, .int .i64 X.rw_, .int .i64 X.cl]) rfl rfl rfl (by kernel_rfl) (hir.gr hs_20.gr).blk (ldV_row (k := 9) (by kernel_rfl) (by kernel_rfl) ((hir.gr hs_20.gr).many (i := j) (by omega) (j := 0) (show ((itC (E.xs.getD j itm0)).drop 0).take 9 = _ by rw [← hX]; rfl) (by decide)) rfl rfl) ?_
      refine SL.newH (mk := fun g => .pointer (some ⟨g, 0, none⟩)) (C := #[.int .i64 0, .int .i64 0, .slice none 0 0, .int .i64 0, .int .u8 0, .bool false, .bool false, .int .i64 0, .int .i64 0]) (T := 30) hs_20 rfl rfl (by kernel_rfl) (fun g_35 w_36 hs_37 => ?_)
      have hs_37 : SH [] w w_36 [rowH 49 1 ao (out).length co (lcells out), allH (out.map (rowP 37)), allH (out.map clL), rowH 37 9 ai (xs).length ci (xcells xs), allH (xs.map clX), pt g_35 #[.int .i64 0, .int .i64 0, .slice none 0 0, .int .i64 0, .int .u8 0, .bool false, .bool false, .int .i64 0, .int .i64 0] 30] := hs_37
      refine SL.storeH (i := 5) (g := g_35) (off := 0) (v := .agg #[.int .i64 X.at_, .int .i64 X.kd, .slice X.da X.bs.length X.dc, .int .i64 X.k0, .int .u8 X.k1, .bool X.k2, .bool X.k3, .int .i64 X.rw_, .int .i64 X.cl]) (L' := [rowH 49 1 ao (out).length co (lcells out), allH (out.map (rowP 37)), allH (out.map clL), rowH 37 9 ai (xs).length ci (xcells xs), allH (xs.map clX), pt g_35 #[.int .i64 X.at_, .int .i64 X.kd, .slice X.da X.bs.length X.dc, .int .i64 X.k0, .int .u8 X.k1, .bool X.k2, .bool X.k3, .int .i64 X.rw_, .int .i64 X.cl] 30]) hs_37 rfl rfl rfl (by kernel_rfl) (by kernel_rfl) rfl (by kernel_rfl) (by kernel_rfl) rfl (by kernel_rfl) rfl (fun w_38 hs_39 => ?_)
      refine SL.nil ?_
      refine CW.region ?_
      refine SL.v (.slice ai ((xs).length) ci) ?_
      refine SL.load (g := g_35) (off := 0) (v := .agg #[.int .i64 X.at_, .int .i64 X.kd, .slice X.da X.bs.length X.dc, .int .i64 X.k0, .int .u8 X.k1, .bool X.k2, .bool X.k3, .int .i64 X.rw_, .int .i64 X.cl]) rfl rfl rfl (by kernel_rfl) (hs_39.pt_at (i := 5) rfl) (by kernel_rfl) ?_
      refine SL.callH (f := 17) (args := #[.agg #[.int .i64 X.at_, .int .i64 X.kd, .slice X.da X.bs.length X.dc, .int .i64 X.k0, .int .u8 X.k1, .bool X.k2, .bool X.k3, .int .i64 X.rw_, .int .i64 X.cl]]) (Pre := []) (Rest := [rowH 49 1 ao (out).length co (lcells out), allH (out.map (rowP 37)), allH (out.map clL), rowH 37 9 ai (xs).length ci (xcells xs), allH (xs.map clX), pt g_35 #[.int .i64 X.at_, .int .i64 X.kd, .slice X.da X.bs.length X.dc, .int .i64 X.k0, .int .u8 X.k1, .bool X.k2, .bool X.k3, .int .i64 X.rw_, .int .i64 X.cl] 30]) [] hs_39 rfl rfl (by kernel_rfl) rfl (own25_tr X w_38 ((hXd (by omega) (by omega)).1.gr hs_39.gr) (hXd (by omega) (by omega)).2) ?_
      rintro v_ Q_ w_42 ⟨a_40, c_41, rfl, rfl⟩ hs_44
      have hs_44 : SH [] w w_42 [clX (X.with a_40 c_41), rowH 49 1 ao (out).length co (lcells out), allH (out.map (rowP 37)), allH (out.map clL), rowH 37 9 ai (xs).length ci (xcells xs), allH (xs.map clX), pt g_35 #[.int .i64 X.at_, .int .i64 X.kd, .slice X.da X.bs.length X.dc, .int .i64 X.k0, .int .u8 X.k1, .bool X.k2, .bool X.k3, .int .i64 X.rw_, .int .i64 X.cl] 30] := hs_44
      refine SL.newH (mk := fun g => .slice (some ⟨g, 0, none⟩) 1 1) (C := #[.int .i64 X.at_, .int .i64 X.kd, .slice a_40 X.bs.length c_41, .int .i64 X.k0, .int .u8 X.k1, .bool X.k2, .bool X.k3, .int .i64 X.rw_, .int .i64 X.cl]) (T := 37) hs_44 rfl rfl (by kernel_rfl) (fun g_45 w_46 hs_47 => ?_)
      have hs_47 : SH [] w w_46 [clX (X.with a_40 c_41), rowH 49 1 ao (out).length co (lcells out), allH (out.map (rowP 37)), allH (out.map clL), rowH 37 9 ai (xs).length ci (xcells xs), allH (xs.map clX), pt g_35 #[.int .i64 X.at_, .int .i64 X.kd, .slice X.da X.bs.length X.dc, .int .i64 X.k0, .int .u8 X.k1, .bool X.k2, .bool X.k3, .int .i64 X.rw_, .int .i64 X.cl] 30, pt g_45 #[.int .i64 X.at_, .int .i64 X.kd, .slice a_40 X.bs.length c_41, .int .i64 X.k0, .int .u8 X.k1, .bool X.k2, .bool X.k3, .int .i64 X.rw_, .int .i64 X.cl] 37] := hs_47
      refine SL.appR (z := .agg #[.int .i64 0, .int .i64 0, .slice none 0 0, .int .i64 0, .int .u8 0, .bool false, .bool false, .int .i64 0, .int .i64 0]) (size := 9) (bytes := 72) (el := 37) (m := 1) (news := [.int .i64 X.at_, .int .i64 X.kd, .slice a_40 X.bs.length c_41, .int .i64 X.k0, .int .u8 X.k1, .bool X.k2, .bool X.k3, .int .i64 X.rw_, .int .i64 X.cl]) (i := 4) (xs' := xcells (xs ++ [(X.with a_40 c_41)])) (k' := (xs ++ [(X.with a_40 c_41)]).length) (L' := [clX (X.with a_40 c_41), rowH 49 1 ao (out).length co (lcells out), allH (out.map (rowP 37)), allH (out.map clL), allH (xs.map clX), pt g_35 #[.int .i64 X.at_, .int .i64 X.kd, .slice X.da X.bs.length X.dc, .int .i64 X.k0, .int .u8 X.k1, .bool X.k2, .bool X.k3, .int .i64 X.rw_, .int .i64 X.cl] 30, pt g_45 #[.int .i64 X.at_, .int .i64 X.kd, .slice a_40 X.bs.length c_41, .int .i64 X.k0, .int .u8 X.k1, .bool X.k2, .bool X.k3, .int .i64 X.rw_, .int .i64 X.cl] 37]) hs_47 rfl rfl rfl (by kernel_rfl) (by kernel_rfl) (by kernel_rfl) (by kernel_rfl) (by kernel_rfl) (by kernel_rfl) rfl rfl (srcH (off := 0) (cs := [.int .i64 X.at_, .int .i64 X.kd, .slice a_40 X.bs.length c_41, .int .i64 X.k0, .int .u8 X.k1, .bool X.k2, .bool X.k3, .int .i64 X.rw_, .int .i64 X.cl]) (el := 37) (by kernel_rfl) (hs_47.pt_at (i := 7) rfl) rfl rfl (List.all_eq_true.1 (by kernel_rfl))) (by (try simp only [List.length_append, List.length_cons, List.length_nil]); omega) (xcells_app xs ([(X.with a_40 c_41)])) (by first | (simp; done) | (simp only [List.length_append, List.length_cons, List.length_nil] <;> omega)) rfl (fun a_48 c_49 w_50 hs_51 => ?_)
      have hs_51 : SH [] w w_50 [clX (X.with a_40 c_41), rowH 49 1 ao (out).length co (lcells out), allH (out.map (rowP 37)), allH (out.map clL), allH (xs.map clX), pt g_35 #[.int .i64 X.at_, .int .i64 X.kd, .slice X.da X.bs.length X.dc, .int .i64 X.k0, .int .u8 X.k1, .bool X.k2, .bool X.k3, .int .i64 X.rw_, .int .i64 X.cl] 30, pt g_45 #[.int .i64 X.at_, .int .i64 X.kd, .slice a_40 X.bs.length c_41, .int .i64 X.k0, .int .u8 X.k1, .bool X.k2, .bool X.k3, .int .i64 X.rw_, .int .i64 X.cl] 37, rowH 37 9 a_48 (xs ++ [(X.with a_40 c_41)]).length c_49 (xcells (xs ++ [(X.with a_40 c_41)]))] := hs_51
      refine SL.v (.slice a_48 ((xs ++ [(X.with a_40 c_41)]).length) c_49) ?_
      refine SL.nil ?_
      refine CW.region ?_
      refine SL.val (v := .int .i64 ((j + 1 : Nat) : Int)) (w' := w_50) rfl rfl (by have hw : IntKind.i64.wrap (((j : Nat) : Int) + 1) = ((j + 1 : Nat) : Int) := (IntWalk.i64_in _ (by omega)).trans (by omega); exact run_eqv (by kernel_rfl) (congrArg (fun z => Value.int .i64 z) hw)) ?_
      refine SL.v (.int .i64 ((j + 1 : Nat) : Int)) ?_
      refine SL.nil ?_
      obtain ⟨Q_, hQ_, hs_53⟩ := hs_51.ent (is := [4, 0]) rfl (allH_push (xs.map clX) (clX (X.with a_40 c_41)))
      subst hQ_
      have hs_54 : SH [] w w_50 [allH ((xs ++ [(X.with a_40 c_41)]).map clX), rowH 49 1 ao (out).length co (lcells out), allH (out.map (rowP 37)), allH (out.map clL), pt g_35 #[.int .i64 X.at_, .int .i64 X.kd, .slice X.da X.bs.length X.dc, .int .i64 X.k0, .int .u8 X.k1, .bool X.k2, .bool X.k3, .int .i64 X.rw_, .int .i64 X.cl] 30, pt g_45 #[.int .i64 X.at_, .int .i64 X.kd, .slice a_40 X.bs.length c_41, .int .i64 X.k0, .int .u8 X.k1, .bool X.k2, .bool X.k3, .int .i64 X.rw_, .int .i64 X.cl] 37, rowH 37 9 a_48 (xs ++ [(X.with a_40 c_41)]).length c_49 (xcells (xs ++ [(X.with a_40 c_41)]))] := by have h_ := hs_53; rw [show (xs ++ [(X.with a_40 c_41)]).map clX = xs.map clX ++ [clX (X.with a_40 c_41)] from by rw [List.map_append]; rfl]; exact h_
      exact ⟨_, ⟨j + 1, xs ++ [(X.with a_40 c_41)], a_48, c_49, rfl, (hs_54.pick [1, 1, 1, 3, 0] rfl), (by omega), (by rw [few_takex (by omega), List.map_append, List.map_append, hxs, ← hX]; rfl), (by kernel_rfl), (by kernel_rfl), (by kernel_rfl), (by kernel_rfl), (by kernel_rfl), (by kernel_rfl), (by kernel_rfl), (by kernel_rfl), (by kernel_rfl), (by kernel_rfl), (by kernel_rfl)⟩, by omega⟩
    · try rw [hb_34]
      have hqhb_34 := of_decide_eq_false hb_34
      refine CW.cond_false (by kernel_rfl) ?_
      refine CW.exit ?_
      repeat with_reducible first | refine PThen.exit ?_ | refine PBlock.out rfl ?_
      with_reducible refine PBlock.here ?_
      repeat with_reducible refine PBlock.normal ?_
      refine CW.region ?_
      refine SL.v (.slice ao ((out).length) co) ?_
      refine SL.v (.slice ai ((xs).length) ci) ?_
      refine SL.newH (mk := fun g => .slice (some ⟨g, 0, none⟩) 1 1) (C := #[.slice ai ((xs).length) ci]) (T := 49) hs_20 rfl rfl (by kernel_rfl) (fun g_55 w_56 hs_57 => ?_)
      have hs_57 : SH [] w w_56 [rowH 49 1 ao (out).length co (lcells out), allH (out.map (rowP 37)), allH (out.map clL), rowH 37 9 ai (xs).length ci (xcells xs), allH (xs.map clX), pt g_55 #[.slice ai ((xs).length) ci] 49] := hs_57
      refine SL.appR (z := .slice none 0 0) (size := 1) (bytes := 24) (el := 49) (m := 1) (news := [.slice ai ((xs).length) ci]) (i := 0) (xs' := lcells (out ++ [(⟨ai, ci, xs⟩ : LE)])) (k' := (out ++ [(⟨ai, ci, xs⟩ : LE)]).length) (L' := [allH (out.map (rowP 37)), allH (out.map clL), rowH 37 9 ai (xs).length ci (xcells xs), allH (xs.map clX), pt g_55 #[.slice ai ((xs).length) ci] 49]) hs_57 rfl rfl rfl (by kernel_rfl) (by kernel_rfl) (by kernel_rfl) (by kernel_rfl) (by kernel_rfl) (by kernel_rfl) rfl rfl (srcH (off := 0) (cs := [.slice ai ((xs).length) ci]) (el := 49) (by kernel_rfl) (hs_57.pt_at (i := 5) rfl) rfl rfl (List.all_eq_true.1 (by kernel_rfl))) (by (try simp only [List.length_append, List.length_cons, List.length_nil]); omega) (lcells_app out ([(⟨ai, ci, xs⟩ : LE)])) (by first | (simp; done) | (simp only [List.length_append, List.length_cons, List.length_nil] <;> omega)) rfl (fun a_58 c_59 w_60 hs_61 => ?_)
      have hs_61 : SH [] w w_60 [allH (out.map (rowP 37)), allH (out.map clL), rowH 37 9 ai (xs).length ci (xcells xs), allH (xs.map clX), pt g_55 #[.slice ai ((xs).length) ci] 49, rowH 49 1 a_58 (out ++ [(⟨ai, ci, xs⟩ : LE)]).length c_59 (lcells (out ++ [(⟨ai, ci, xs⟩ : LE)]))] := hs_61
      refine SL.v (.slice a_58 ((out ++ [(⟨ai, ci, xs⟩ : LE)]).length) c_59) ?_
      refine SL.nil ?_
      refine CW.region ?_
      refine SL.val (v := .int .i64 ((k + 1 : Nat) : Int)) (w' := w_60) rfl rfl (by have hw : IntKind.i64.wrap (((k : Nat) : Int) + 1) = ((k + 1 : Nat) : Int) := (IntWalk.i64_in _ (by omega)).trans (by omega); exact run_eqv (by kernel_rfl) (congrArg (fun z => Value.int .i64 z) hw)) ?_
      refine SL.v (.int .i64 ((k + 1 : Nat) : Int)) ?_
      refine SL.nil ?_
      have hxe9 : xs.map Itm.bare = bareL E := by
        rw [hxs]; unfold bareL
        rw [List.take_of_length_le (by omega)]
      obtain ⟨Q_, hQ_, hs_63⟩ := hs_61.ent (is := [0, 1]) rfl (allH_push (out.map (rowP 37)) (rowP 37 ⟨ai, ci, xs⟩))
      subst hQ_
      have hs_64 : SH [] w w_60 [allH ((out ++ [(⟨ai, ci, xs⟩ : LE)]).map (rowP 37)), allH (out.map clL), allH (xs.map clX), pt g_55 #[.slice ai ((xs).length) ci] 49, rowH 49 1 a_58 (out ++ [(⟨ai, ci, xs⟩ : LE)]).length c_59 (lcells (out ++ [(⟨ai, ci, xs⟩ : LE)]))] := by have h_ := hs_63; rw [show (out ++ [(⟨ai, ci, xs⟩ : LE)]).map (rowP 37) = out.map (rowP 37) ++ [rowP 37 ⟨ai, ci, xs⟩] from by rw [List.map_append]; rfl]; exact h_
      obtain ⟨Q_, hQ_, hs_65⟩ := hs_64.ent (is := [1, 1]) rfl (allH_push (out.map clL) (clL ⟨ai, ci, xs⟩))
      subst hQ_
      have hs_66 : SH [] w w_60 [allH ((out ++ [(⟨ai, ci, xs⟩ : LE)]).map clL), allH ((out ++ [(⟨ai, ci, xs⟩ : LE)]).map (rowP 37)), pt g_55 #[.slice ai ((xs).length) ci] 49, rowH 49 1 a_58 (out ++ [(⟨ai, ci, xs⟩ : LE)]).length c_59 (lcells (out ++ [(⟨ai, ci, xs⟩ : LE)]))] := by have h_ := hs_65; rw [show (out ++ [(⟨ai, ci, xs⟩ : LE)]).map clL = out.map clL ++ [clL ⟨ai, ci, xs⟩] from by rw [List.map_append]; rfl]; exact h_
      exact ⟨_, ⟨k + 1, out ++ [(⟨ai, ci, xs⟩ : LE)], a_58, c_59, rfl, (hs_66.pick [3, 1, 0] rfl), (by omega), (by rw [few_take (by omega), List.map_append, List.map_append, hsp, ← hE]; show _ ++ [xs.map Itm.bare] = _ ++ [bareL E]; rw [hxe9]), (by kernel_rfl), (by kernel_rfl), (by kernel_rfl), (by kernel_rfl), (by kernel_rfl)⟩, by omega⟩
  · try rw [hb_14]
    have hqhb_14 := of_decide_eq_false hb_14
    refine CW.cond_false (by kernel_rfl) ?_
    refine CW.exit ?_
    repeat with_reducible first | refine PThen.exit ?_ | refine PBlock.out rfl ?_
    with_reducible refine PBlock.here ?_
    repeat with_reducible refine PBlock.normal ?_
    refine CW.seq ?_
    refine CW.region ?_
    refine SL.v (.slice ao ((out).length) co) ?_
    refine SL.v (.slice ao ((out).length) co) ?_
    refine SL.nil ?_
    refine CW.ret ?_
    repeat with_reducible first | refine PThen.ret ?_ | refine PBlock.ret ?_
    refine PRet.tmp (t := 2) (v := .slice ao ((out).length) co) rfl rfl (by kernel_rfl) ?_
    have hk9_ : Ls.take k = Ls := List.take_of_length_le (by omega)
    rw [hk9_] at hsp
    exact ⟨out, ao, co, rfl, hsp, hs_6.pick [0, 0, 0] rfl⟩
end Go.Proofs.Ytaelmkkobjdgbaa
