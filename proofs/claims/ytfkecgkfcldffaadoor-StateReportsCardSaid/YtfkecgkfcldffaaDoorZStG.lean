/-
  The report of a state, both texts, walked (gen_stg.py).
-/
import Derived.Test.YtfkecgkfcldffaaDoorZSr
import Derived.Test.YtfkecgkfcldffaaDoorZStF
namespace Go.Proofs.YtfkecgkfcldffaaDoor
set_option linter.unusedSimpArgs false
set_option linter.unusedVariables false
open Go.RowKit
set_option linter.unusedVariables false

theorem itoa_d (n : Int) (w : World) (h : 0 ≤ n ∧ n ≤ 65535) (hT : tabT w) : Calls Tryd.prog 50 #[.int .i64 n] w fun e w' => e = .returned (.string (dstr n)) ∧ Gr w w' := by
  have := itoa_walk n h.1 h.2 hT
  unfold dstr; rw [clipR_id h.1 h.2]; exact this
theorem join_d {w : World} {g cap : Nat} {pad : List Value} {T : TypeId} (l : List Int) (hb : w.heap[g]? = some (.cells ⟨(l.map dstr).map Value.string ++ pad⟩ T (0, 0))) (hcap : l.length ≤ cap) (hl : l.length ≤ 1000) :
    Calls Tryd.prog 51 #[.slice (some ⟨g, 0, none⟩) l.length cap, .string ⟨#[59]⟩] w fun e w' => e = .returned (.string (strOf (fmtGo l))) ∧ Gr w w' := by
  have hj := Tryd.strings_Join g 0 cap (l.map dstr) ⟨#[59]⟩ w (fun j x hx => by
    have hlt : j < (l.map dstr).length := (List.getElem?_eq_some_iff.1 hx).1
    have := cell_of_row hb j (.string x) (by
      rw [List.getElem?_toArray, List.getElem?_append_left (by simpa using hlt), List.getElem?_map, hx]; rfl)
    simpa using this) (Array.getElem?_eq_some_iff.1 hb).1 (by simp; omega) (by simpa using hcap) (by have := fmt_len l; simp only [ByteArray.data] at *; omega)
  rw [List.length_map] at hj
  rw [join_fmt]
  exact hj
theorem dec_d (n : Int) (w : World) (h : 0 ≤ n ∧ n ≤ 65535) : Calls Tryd.prog 53 #[.int .i64 n] w fun e w' => e = .returned (.string (dstr n)) ∧ Gr w w' := by
  have := dec_any n h.1 h.2 w
  unfold dstr; rw [clipR_id h.1 h.2]; exact this
theorem dstr_size (n : Int) : (dstr n).size ≤ 7 := digs_size2 _ (clipR_in n).1 (clipR_in n).2
theorem nums_in {c : Cor} (h : c.clean.Ok) (hb : c.clean.mt ≤ 65535 ∧ c.clean.ml ≤ 65535 ∧ c.clean.mb ≤ 65535 ∧ c.clean.mr ≤ 65535) (h0 : 0 ≤ c.clean.mt ∧ 0 ≤ c.clean.ml ∧ 0 ≤ c.clean.mb ∧ 0 ≤ c.clean.mr) : ∀ n ∈ c.clean.nums, 0 ≤ n ∧ n ≤ 65535 := by
  have h5 := clipz_in c.level 1 5 (by decide)
  have h2 := clipz_in c.status 0 2 (by decide)
  have hl : c.clean.level = clipZ c.level 1 5 := rfl
  have hs : c.clean.status = clipZ c.status 0 2 := rfl
  have hm : c.clean.modes = c.modes % 131072 := rfl
  have fz : ∀ b, 0 ≤ flagZ b ∧ flagZ b ≤ 65535 := by intro b; cases b <;> decide
  simp only [Cor.nums, List.forall_mem_cons, List.not_mem_nil, false_implies, implies_true, and_true]
  refine ⟨by omega, fz _, by omega, by omega, fz _, by omega, fz _, by omega, by omega, by omega, by omega, fz _⟩
theorem rep_cat (a0 a1 a2 a3 a4 a5 a6 a7 a8 a9 a10 a11 : Int) : ((((((((((((((((((((((((⟨#[]⟩) ++ (dstr a0)) ++ ⟨#[59]⟩) ++ (dstr a1)) ++ ⟨#[59]⟩) ++ (dstr a2)) ++ ⟨#[59]⟩) ++ (dstr a3)) ++ ⟨#[59]⟩) ++ (dstr a4)) ++ ⟨#[59]⟩) ++ (dstr a5)) ++ ⟨#[59]⟩) ++ (dstr a6)) ++ ⟨#[59]⟩) ++ (dstr a7)) ++ ⟨#[59]⟩) ++ (dstr a8)) ++ ⟨#[59]⟩) ++ (dstr a9)) ++ ⟨#[59]⟩) ++ (dstr a10)) ++ ⟨#[59]⟩) ++ (dstr a11) : ByteArray) = strOf (fmtGo [a0, a1, a2, a3, a4, a5, a6, a7, a8, a9, a10, a11]) := by
  have e1 : (⟨#[59]⟩ : ByteArray) = strOf [59] := rfl
  have e0 : (⟨#[]⟩ : ByteArray) = strOf [] := rfl
  simp only [dstr, e1, e0, strOf_app, fmtGo, List.append_assoc, List.nil_append, List.cons_append]
set_option maxRecDepth 100000 in
set_option maxHeartbeats 4000000 in
theorem rep_any (c : Cor) (w : World) (hok : c.Ok) (hT : tabT w) (hn : ∀ n ∈ c.clean.nums, 0 ≤ n ∧ n ≤ 65535) : Calls Tryd.prog 16 #[.agg (cvA c)] w fun e w' => e = .returned (.string (strOf (fmtGo c.clean.nums))) ∧ Gr w w' := by
  refine calls_sx (n := 21) (args := [.agg (cvA c)]) Tryd.func16 rfl rfl rfl ?_
  have hs0 := Bk.init w
  refine CW.seq ?_
  refine CW.region ?_
  refine SL.new (mk := fun g => .pointer (some ⟨g, 0, none⟩)) (C := (cvA c)) (T := 46) hs0 rfl rfl (by kernel_rfl) (fun g_1 w_2 hs_3 => ?_)
  have hs_3 : Bk w w_2 [(g_1, .cells (cvA c) 46 (0, 0))] := hs_3
  refine SL.v (.string ⟨#[]⟩) ?_
  refine SL.nil ?_
  refine CW.seq ?_
  refine CW.region ?_
  refine SL.v (.slice none 0 0) ?_
  refine SL.nil ?_
  refine CW.seq ?_
  refine CW.seq ?_
  refine CW.region ?_
  refine SL.load (g := g_1) (off := 0) (v := .agg (cvA c)) rfl rfl rfl (by kernel_rfl) (hs_3.all 0 g_1 _ rfl) (by kernel_rfl) ?_
  refine SL.call (f := 49) (args := #[.agg (cvA c)]) (w1 := w_2) rfl rfl (by kernel_rfl) (nums_any c w_2 hok) ?_
  rintro x w_5 ⟨g_4, rfl, hb_8, hge_9, hc_6⟩
  refine ⟨.slice (some ⟨g_4, 0, none⟩) 12 12, rfl, ?_⟩
  have hs_7 := (hs_3.grow hc_6).add hb_8 (Nat.le_trans hs_3.gr.size hge_9) (hs_3.new_ne hge_9)
  have hs_7 : Bk w w_5 [(g_1, .cells (cvA c) 46 (0, 0)), (g_4, .cells #[.int .i64 c.clean.level, .int .i64 (flagZ c.clean.eight), .int .i64 (c.clean.modes / 4096), .int .i64 (c.clean.modes % 4096), .int .i64 (flagZ c.clean.stream), .int .i64 c.clean.status, .int .i64 (flagZ c.clean.below), .int .i64 c.clean.mt, .int .i64 c.clean.ml, .int .i64 c.clean.mb, .int .i64 c.clean.mr, .int .i64 (flagZ c.clean.origin)] 3 (0, 0))] := hs_7
  refine SL.val (v := .int .i64 12) (w' := w_5) rfl rfl (by kernel_rfl) ?_
  refine SL.v (.int .i64 0) ?_
  refine SL.nil ?_
  refine CW.block ?_
  refine CW.loopN 13 ?_
  refine CR.more ?_
  refine CW.seq ?_
  refine CW.region ?_
  refine SL.v (.bool true) ?_
  refine SL.nil ?_
  refine CW.seq ?_
  refine CW.cond_true (by kernel_rfl) ?_
  refine CW.skip ?_
  refine CW.seq ?_
  refine CW.block ?_
  refine CW.seq ?_
  refine CW.region ?_
  refine SL.v (.pointer (some ⟨g_4, 0, none⟩)) ?_
  refine SL.load (g := g_4) (off := 0) (v := .int .i64 c.clean.level) rfl rfl rfl (by kernel_rfl) (hs_7.all 1 g_4 _ rfl) (by kernel_rfl) ?_
  refine SL.v (.int .i64 c.clean.level) ?_
  refine SL.nil ?_
  refine CW.region ?_
  refine SL.v (.slice none 0 0) ?_
  refine SL.v (.int .i64 c.clean.level) ?_
  refine SL.call (f := 50) (args := #[.int .i64 c.clean.level]) (w1 := w_5) rfl rfl (by kernel_rfl) (itoa_d c.clean.level w_5 (hn _ (by simp [Cor.nums])) (hT.gr hs_7.gr)) ?_
  rintro x w_10 ⟨rfl, hc_11⟩
  refine ⟨.string (dstr c.clean.level), rfl, ?_⟩
  have hs_12 := hs_7.grow hc_11
  refine SL.new (mk := fun g => .slice (some ⟨g, 0, none⟩) 1 1) (C := #[.string (dstr c.clean.level)]) (T := 9) hs_12 rfl rfl (by kernel_rfl) (fun g_13 w_14 hs_15 => ?_)
  have hs_15 : Bk w w_14 [(g_1, .cells (cvA c) 46 (0, 0)), (g_4, .cells #[.int .i64 c.clean.level, .int .i64 (flagZ c.clean.eight), .int .i64 (c.clean.modes / 4096), .int .i64 (c.clean.modes % 4096), .int .i64 (flagZ c.clean.stream), .int .i64 c.clean.status, .int .i64 (flagZ c.clean.below), .int .i64 c.clean.mt, .int .i64 c.clean.ml, .int .i64 c.clean.mb, .int .i64 c.clean.mr, .int .i64 (flagZ c.clean.origin)] 3 (0, 0)), (g_13, .cells #[.string (dstr c.clean.level)] 9 (0, 0))] := hs_15
  refine SL.app0 (z := .string ⟨#[]⟩) (size := 1) (bytes := 16) (el := 9) (m := 1) (news := [.string (dstr c.clean.level)]) hs_15 rfl rfl rfl (by kernel_rfl) (by kernel_rfl) (by kernel_rfl) (by kernel_rfl) (by kernel_rfl) rfl rfl (src_at (cs := [.string (dstr c.clean.level)]) (el := 9) (by kernel_rfl) (hs_15.all 2 g_13 _ rfl) rfl rfl (List.all_eq_true.1 (by kernel_rfl))) (by decide) (by decide) (fun g_16 cap_17 pad_18 w_19 hs_20 hl_21 hc_22 hm_23 => ?_)
  have hs_20 : Bk w w_19 [(g_1, .cells (cvA c) 46 (0, 0)), (g_4, .cells #[.int .i64 c.clean.level, .int .i64 (flagZ c.clean.eight), .int .i64 (c.clean.modes / 4096), .int .i64 (c.clean.modes % 4096), .int .i64 (flagZ c.clean.stream), .int .i64 c.clean.status, .int .i64 (flagZ c.clean.below), .int .i64 c.clean.mt, .int .i64 c.clean.ml, .int .i64 c.clean.mb, .int .i64 c.clean.mr, .int .i64 (flagZ c.clean.origin)] 3 (0, 0)), (g_13, .cells #[.string (dstr c.clean.level)] 9 (0, 0)), (g_16, .cells ⟨[.string (dstr c.clean.level)] ++ pad_18⟩ 9 (0, 0))] := hs_20
  have hs_24 : Bk w w_19 [(g_1, .cells (cvA c) 46 (0, 0)), (g_4, .cells #[.int .i64 c.clean.level, .int .i64 (flagZ c.clean.eight), .int .i64 (c.clean.modes / 4096), .int .i64 (c.clean.modes % 4096), .int .i64 (flagZ c.clean.stream), .int .i64 c.clean.status, .int .i64 (flagZ c.clean.below), .int .i64 c.clean.mt, .int .i64 c.clean.ml, .int .i64 c.clean.mb, .int .i64 c.clean.mr, .int .i64 (flagZ c.clean.origin)] 3 (0, 0)), (g_16, .cells ⟨[.string (dstr c.clean.level)] ++ pad_18⟩ 9 (0, 0))] := hs_20.erase 2
  refine SL.v (.slice (some ⟨g_16, 0, none⟩) 1 cap_17) ?_
  refine SL.nil ?_
  refine CW.region ?_
  refine SL.v (.int .i64 1) ?_
  refine SL.v (.int .i64 1) ?_
  refine SL.nil ?_
  refine CR.fresh (fun e9 => e9 0 = .agg (cvA c) ∧ e9 1 = .pointer (some ⟨g_1, 0, none⟩) ∧ e9 2 = .string ⟨#[]⟩ ∧ e9 3 = .slice (some ⟨g_16, 0, none⟩) 1 cap_17 ∧ e9 6 = .agg (cvA c) ∧ e9 7 = .slice (some ⟨g_4, 0, none⟩) 12 12 ∧ e9 8 = .int .i64 12 ∧ e9 9 = .int .i64 1) ⟨(by kernel_rfl), (by kernel_rfl), (by kernel_rfl), (by kernel_rfl), (by kernel_rfl), (by kernel_rfl), (by kernel_rfl), (by kernel_rfl)⟩ ?_
  rintro e_25 ⟨hv_27, hv_28, hv_29, hv_30, hv_31, hv_32, hv_33, hv_34⟩
  obtain ⟨e_26, rfl⟩ : ∃ e_26, e_25 = put1 (put1 (put1 (put1 (put1 (put1 (put1 (put1 e_26 0 (.agg (cvA c))) 1 (.pointer (some ⟨g_1, 0, none⟩))) 2 (.string ⟨#[]⟩)) 3 (.slice (some ⟨g_16, 0, none⟩) 1 cap_17)) 6 (.agg (cvA c))) 7 (.slice (some ⟨g_4, 0, none⟩) 12 12)) 8 (.int .i64 12)) 9 (.int .i64 1) := ⟨e_25, (put_self hv_34).trans (congrArg (fun z => put1 z 9 (.int .i64 1)) ((put_self hv_33).trans (congrArg (fun z => put1 z 8 (.int .i64 12)) ((put_self hv_32).trans (congrArg (fun z => put1 z 7 (.slice (some ⟨g_4, 0, none⟩) 12 12)) ((put_self hv_31).trans (congrArg (fun z => put1 z 6 (.agg (cvA c))) ((put_self hv_30).trans (congrArg (fun z => put1 z 3 (.slice (some ⟨g_16, 0, none⟩) 1 cap_17)) ((put_self hv_29).trans (congrArg (fun z => put1 z 2 (.string ⟨#[]⟩)) ((put_self hv_28).trans (congrArg (fun z => put1 z 1 (.pointer (some ⟨g_1, 0, none⟩))) (put_self hv_27))))))))))))))⟩
  clear hv_27 hv_28 hv_29 hv_30 hv_31 hv_32 hv_33 hv_34
  refine CR.more ?_
  refine CW.seq ?_
  refine CW.region ?_
  refine SL.v (.bool true) ?_
  refine SL.nil ?_
  refine CW.seq ?_
  refine CW.cond_true (by kernel_rfl) ?_
  refine CW.skip ?_
  refine CW.seq ?_
  refine CW.block ?_
  refine CW.seq ?_
  refine CW.region ?_
  refine SL.v (.pointer (some ⟨g_4, 1, none⟩)) ?_
  refine SL.load (g := g_4) (off := 1) (v := .int .i64 (flagZ c.clean.eight)) rfl rfl rfl (by kernel_rfl) (hs_24.all 1 g_4 _ rfl) (by kernel_rfl) ?_
  refine SL.v (.int .i64 (flagZ c.clean.eight)) ?_
  refine SL.nil ?_
  refine CW.region ?_
  refine SL.v (.slice (some ⟨g_16, 0, none⟩) 1 cap_17) ?_
  refine SL.v (.int .i64 (flagZ c.clean.eight)) ?_
  refine SL.call (f := 50) (args := #[.int .i64 (flagZ c.clean.eight)]) (w1 := w_19) rfl rfl (by kernel_rfl) (itoa_d (flagZ c.clean.eight) w_19 (hn _ (by simp [Cor.nums])) (hT.gr hs_24.gr)) ?_
  rintro x w_35 ⟨rfl, hc_36⟩
  refine ⟨.string (dstr (flagZ c.clean.eight)), rfl, ?_⟩
  have hs_37 := hs_24.grow hc_36
  refine SL.new (mk := fun g => .slice (some ⟨g, 0, none⟩) 1 1) (C := #[.string (dstr (flagZ c.clean.eight))]) (T := 9) hs_37 rfl rfl (by kernel_rfl) (fun g_38 w_39 hs_40 => ?_)
  have hs_40 : Bk w w_39 [(g_1, .cells (cvA c) 46 (0, 0)), (g_4, .cells #[.int .i64 c.clean.level, .int .i64 (flagZ c.clean.eight), .int .i64 (c.clean.modes / 4096), .int .i64 (c.clean.modes % 4096), .int .i64 (flagZ c.clean.stream), .int .i64 c.clean.status, .int .i64 (flagZ c.clean.below), .int .i64 c.clean.mt, .int .i64 c.clean.ml, .int .i64 c.clean.mb, .int .i64 c.clean.mr, .int .i64 (flagZ c.clean.origin)] 3 (0, 0)), (g_16, .cells ⟨[.string (dstr c.clean.level)] ++ pad_18⟩ 9 (0, 0)), (g_38, .cells #[.string (dstr (flagZ c.clean.eight))] 9 (0, 0))] := hs_40
  refine SL.app (z := .string ⟨#[]⟩) (size := 1) (bytes := 16) (el := 9) (m := 1) (news := [.string (dstr (flagZ c.clean.eight))]) (i := 2) (g := g_16) (k := 1) (cap := cap_17) (xs := [.string (dstr c.clean.level)]) (pad := pad_18) (xs' := [.string (dstr c.clean.level), .string (dstr (flagZ c.clean.eight))]) (k' := 2) (L' := [(g_1, .cells (cvA c) 46 (0, 0)), (g_4, .cells #[.int .i64 c.clean.level, .int .i64 (flagZ c.clean.eight), .int .i64 (c.clean.modes / 4096), .int .i64 (c.clean.modes % 4096), .int .i64 (flagZ c.clean.stream), .int .i64 c.clean.status, .int .i64 (flagZ c.clean.below), .int .i64 c.clean.mt, .int .i64 c.clean.ml, .int .i64 c.clean.mb, .int .i64 c.clean.mr, .int .i64 (flagZ c.clean.origin)] 3 (0, 0)), (g_38, .cells #[.string (dstr (flagZ c.clean.eight))] 9 (0, 0))]) hs_40 rfl rfl rfl (by kernel_rfl) (by kernel_rfl) (by kernel_rfl) (by kernel_rfl) (by kernel_rfl) rfl rfl rfl hl_21 hc_22 hm_23 rfl (src_at (cs := [.string (dstr (flagZ c.clean.eight))]) (el := 9) (by kernel_rfl) (hs_40.all 3 g_38 _ rfl) rfl rfl (List.all_eq_true.1 (by kernel_rfl))) (by decide) rfl rfl rfl (fun g_41 cap_42 pad_43 w_44 hs_45 hl_46 hc_47 hm_48 => ?_)
  have hs_45 : Bk w w_44 [(g_1, .cells (cvA c) 46 (0, 0)), (g_4, .cells #[.int .i64 c.clean.level, .int .i64 (flagZ c.clean.eight), .int .i64 (c.clean.modes / 4096), .int .i64 (c.clean.modes % 4096), .int .i64 (flagZ c.clean.stream), .int .i64 c.clean.status, .int .i64 (flagZ c.clean.below), .int .i64 c.clean.mt, .int .i64 c.clean.ml, .int .i64 c.clean.mb, .int .i64 c.clean.mr, .int .i64 (flagZ c.clean.origin)] 3 (0, 0)), (g_38, .cells #[.string (dstr (flagZ c.clean.eight))] 9 (0, 0)), (g_41, .cells ⟨[.string (dstr c.clean.level), .string (dstr (flagZ c.clean.eight))] ++ pad_43⟩ 9 (0, 0))] := hs_45
  have hs_49 : Bk w w_44 [(g_1, .cells (cvA c) 46 (0, 0)), (g_4, .cells #[.int .i64 c.clean.level, .int .i64 (flagZ c.clean.eight), .int .i64 (c.clean.modes / 4096), .int .i64 (c.clean.modes % 4096), .int .i64 (flagZ c.clean.stream), .int .i64 c.clean.status, .int .i64 (flagZ c.clean.below), .int .i64 c.clean.mt, .int .i64 c.clean.ml, .int .i64 c.clean.mb, .int .i64 c.clean.mr, .int .i64 (flagZ c.clean.origin)] 3 (0, 0)), (g_41, .cells ⟨[.string (dstr c.clean.level), .string (dstr (flagZ c.clean.eight))] ++ pad_43⟩ 9 (0, 0))] := hs_45.erase 2
  refine SL.v (.slice (some ⟨g_41, 0, none⟩) 2 cap_42) ?_
  refine SL.nil ?_
  refine CW.region ?_
  refine SL.v (.int .i64 2) ?_
  refine SL.v (.int .i64 2) ?_
  refine SL.nil ?_
  refine CR.fresh (fun e9 => e9 0 = .agg (cvA c) ∧ e9 1 = .pointer (some ⟨g_1, 0, none⟩) ∧ e9 2 = .string ⟨#[]⟩ ∧ e9 3 = .slice (some ⟨g_41, 0, none⟩) 2 cap_42 ∧ e9 6 = .agg (cvA c) ∧ e9 7 = .slice (some ⟨g_4, 0, none⟩) 12 12 ∧ e9 8 = .int .i64 12 ∧ e9 9 = .int .i64 2) ⟨(by kernel_rfl), (by kernel_rfl), (by kernel_rfl), (by kernel_rfl), (by kernel_rfl), (by kernel_rfl), (by kernel_rfl), (by kernel_rfl)⟩ ?_
  rintro e_50 ⟨hv_52, hv_53, hv_54, hv_55, hv_56, hv_57, hv_58, hv_59⟩
  obtain ⟨e_51, rfl⟩ : ∃ e_51, e_50 = put1 (put1 (put1 (put1 (put1 (put1 (put1 (put1 e_51 0 (.agg (cvA c))) 1 (.pointer (some ⟨g_1, 0, none⟩))) 2 (.string ⟨#[]⟩)) 3 (.slice (some ⟨g_41, 0, none⟩) 2 cap_42)) 6 (.agg (cvA c))) 7 (.slice (some ⟨g_4, 0, none⟩) 12 12)) 8 (.int .i64 12)) 9 (.int .i64 2) := ⟨e_50, (put_self hv_59).trans (congrArg (fun z => put1 z 9 (.int .i64 2)) ((put_self hv_58).trans (congrArg (fun z => put1 z 8 (.int .i64 12)) ((put_self hv_57).trans (congrArg (fun z => put1 z 7 (.slice (some ⟨g_4, 0, none⟩) 12 12)) ((put_self hv_56).trans (congrArg (fun z => put1 z 6 (.agg (cvA c))) ((put_self hv_55).trans (congrArg (fun z => put1 z 3 (.slice (some ⟨g_41, 0, none⟩) 2 cap_42)) ((put_self hv_54).trans (congrArg (fun z => put1 z 2 (.string ⟨#[]⟩)) ((put_self hv_53).trans (congrArg (fun z => put1 z 1 (.pointer (some ⟨g_1, 0, none⟩))) (put_self hv_52))))))))))))))⟩
  clear hv_52 hv_53 hv_54 hv_55 hv_56 hv_57 hv_58 hv_59
  refine CR.more ?_
  refine CW.seq ?_
  refine CW.region ?_
  refine SL.v (.bool true) ?_
  refine SL.nil ?_
  refine CW.seq ?_
  refine CW.cond_true (by kernel_rfl) ?_
  refine CW.skip ?_
  refine CW.seq ?_
  refine CW.block ?_
  refine CW.seq ?_
  refine CW.region ?_
  refine SL.v (.pointer (some ⟨g_4, 2, none⟩)) ?_
  refine SL.load (g := g_4) (off := 2) (v := .int .i64 (c.clean.modes / 4096)) rfl rfl rfl (by kernel_rfl) (hs_49.all 1 g_4 _ rfl) (by kernel_rfl) ?_
  refine SL.v (.int .i64 (c.clean.modes / 4096)) ?_
  refine SL.nil ?_
  refine CW.region ?_
  refine SL.v (.slice (some ⟨g_41, 0, none⟩) 2 cap_42) ?_
  refine SL.v (.int .i64 (c.clean.modes / 4096)) ?_
  refine SL.call (f := 50) (args := #[.int .i64 (c.clean.modes / 4096)]) (w1 := w_44) rfl rfl (by kernel_rfl) (itoa_d (c.clean.modes / 4096) w_44 (hn _ (by simp [Cor.nums])) (hT.gr hs_49.gr)) ?_
  rintro x w_60 ⟨rfl, hc_61⟩
  refine ⟨.string (dstr (c.clean.modes / 4096)), rfl, ?_⟩
  have hs_62 := hs_49.grow hc_61
  refine SL.new (mk := fun g => .slice (some ⟨g, 0, none⟩) 1 1) (C := #[.string (dstr (c.clean.modes / 4096))]) (T := 9) hs_62 rfl rfl (by kernel_rfl) (fun g_63 w_64 hs_65 => ?_)
  have hs_65 : Bk w w_64 [(g_1, .cells (cvA c) 46 (0, 0)), (g_4, .cells #[.int .i64 c.clean.level, .int .i64 (flagZ c.clean.eight), .int .i64 (c.clean.modes / 4096), .int .i64 (c.clean.modes % 4096), .int .i64 (flagZ c.clean.stream), .int .i64 c.clean.status, .int .i64 (flagZ c.clean.below), .int .i64 c.clean.mt, .int .i64 c.clean.ml, .int .i64 c.clean.mb, .int .i64 c.clean.mr, .int .i64 (flagZ c.clean.origin)] 3 (0, 0)), (g_41, .cells ⟨[.string (dstr c.clean.level), .string (dstr (flagZ c.clean.eight))] ++ pad_43⟩ 9 (0, 0)), (g_63, .cells #[.string (dstr (c.clean.modes / 4096))] 9 (0, 0))] := hs_65
  refine SL.app (z := .string ⟨#[]⟩) (size := 1) (bytes := 16) (el := 9) (m := 1) (news := [.string (dstr (c.clean.modes / 4096))]) (i := 2) (g := g_41) (k := 2) (cap := cap_42) (xs := [.string (dstr c.clean.level), .string (dstr (flagZ c.clean.eight))]) (pad := pad_43) (xs' := [.string (dstr c.clean.level), .string (dstr (flagZ c.clean.eight)), .string (dstr (c.clean.modes / 4096))]) (k' := 3) (L' := [(g_1, .cells (cvA c) 46 (0, 0)), (g_4, .cells #[.int .i64 c.clean.level, .int .i64 (flagZ c.clean.eight), .int .i64 (c.clean.modes / 4096), .int .i64 (c.clean.modes % 4096), .int .i64 (flagZ c.clean.stream), .int .i64 c.clean.status, .int .i64 (flagZ c.clean.below), .int .i64 c.clean.mt, .int .i64 c.clean.ml, .int .i64 c.clean.mb, .int .i64 c.clean.mr, .int .i64 (flagZ c.clean.origin)] 3 (0, 0)), (g_63, .cells #[.string (dstr (c.clean.modes / 4096))] 9 (0, 0))]) hs_65 rfl rfl rfl (by kernel_rfl) (by kernel_rfl) (by kernel_rfl) (by kernel_rfl) (by kernel_rfl) rfl rfl rfl hl_46 hc_47 hm_48 rfl (src_at (cs := [.string (dstr (c.clean.modes / 4096))]) (el := 9) (by kernel_rfl) (hs_65.all 3 g_63 _ rfl) rfl rfl (List.all_eq_true.1 (by kernel_rfl))) (by decide) rfl rfl rfl (fun g_66 cap_67 pad_68 w_69 hs_70 hl_71 hc_72 hm_73 => ?_)
  have hs_70 : Bk w w_69 [(g_1, .cells (cvA c) 46 (0, 0)), (g_4, .cells #[.int .i64 c.clean.level, .int .i64 (flagZ c.clean.eight), .int .i64 (c.clean.modes / 4096), .int .i64 (c.clean.modes % 4096), .int .i64 (flagZ c.clean.stream), .int .i64 c.clean.status, .int .i64 (flagZ c.clean.below), .int .i64 c.clean.mt, .int .i64 c.clean.ml, .int .i64 c.clean.mb, .int .i64 c.clean.mr, .int .i64 (flagZ c.clean.origin)] 3 (0, 0)), (g_63, .cells #[.string (dstr (c.clean.modes / 4096))] 9 (0, 0)), (g_66, .cells ⟨[.string (dstr c.clean.level), .string (dstr (flagZ c.clean.eight)), .string (dstr (c.clean.modes / 4096))] ++ pad_68⟩ 9 (0, 0))] := hs_70
  have hs_74 : Bk w w_69 [(g_1, .cells (cvA c) 46 (0, 0)), (g_4, .cells #[.int .i64 c.clean.level, .int .i64 (flagZ c.clean.eight), .int .i64 (c.clean.modes / 4096), .int .i64 (c.clean.modes % 4096), .int .i64 (flagZ c.clean.stream), .int .i64 c.clean.status, .int .i64 (flagZ c.clean.below), .int .i64 c.clean.mt, .int .i64 c.clean.ml, .int .i64 c.clean.mb, .int .i64 c.clean.mr, .int .i64 (flagZ c.clean.origin)] 3 (0, 0)), (g_66, .cells ⟨[.string (dstr c.clean.level), .string (dstr (flagZ c.clean.eight)), .string (dstr (c.clean.modes / 4096))] ++ pad_68⟩ 9 (0, 0))] := hs_70.erase 2
  refine SL.v (.slice (some ⟨g_66, 0, none⟩) 3 cap_67) ?_
  refine SL.nil ?_
  refine CW.region ?_
  refine SL.v (.int .i64 3) ?_
  refine SL.v (.int .i64 3) ?_
  refine SL.nil ?_
  refine CR.fresh (fun e9 => e9 0 = .agg (cvA c) ∧ e9 1 = .pointer (some ⟨g_1, 0, none⟩) ∧ e9 2 = .string ⟨#[]⟩ ∧ e9 3 = .slice (some ⟨g_66, 0, none⟩) 3 cap_67 ∧ e9 6 = .agg (cvA c) ∧ e9 7 = .slice (some ⟨g_4, 0, none⟩) 12 12 ∧ e9 8 = .int .i64 12 ∧ e9 9 = .int .i64 3) ⟨(by kernel_rfl), (by kernel_rfl), (by kernel_rfl), (by kernel_rfl), (by kernel_rfl), (by kernel_rfl), (by kernel_rfl), (by kernel_rfl)⟩ ?_
  rintro e_75 ⟨hv_77, hv_78, hv_79, hv_80, hv_81, hv_82, hv_83, hv_84⟩
  obtain ⟨e_76, rfl⟩ : ∃ e_76, e_75 = put1 (put1 (put1 (put1 (put1 (put1 (put1 (put1 e_76 0 (.agg (cvA c))) 1 (.pointer (some ⟨g_1, 0, none⟩))) 2 (.string ⟨#[]⟩)) 3 (.slice (some ⟨g_66, 0, none⟩) 3 cap_67)) 6 (.agg (cvA c))) 7 (.slice (some ⟨g_4, 0, none⟩) 12 12)) 8 (.int .i64 12)) 9 (.int .i64 3) := ⟨e_75, (put_self hv_84).trans (congrArg (fun z => put1 z 9 (.int .i64 3)) ((put_self hv_83).trans (congrArg (fun z => put1 z 8 (.int .i64 12)) ((put_self hv_82).trans (congrArg (fun z => put1 z 7 (.slice (some ⟨g_4, 0, none⟩) 12 12)) ((put_self hv_81).trans (congrArg (fun z => put1 z 6 (.agg (cvA c))) ((put_self hv_80).trans (congrArg (fun z => put1 z 3 (.slice (some ⟨g_66, 0, none⟩) 3 cap_67)) ((put_self hv_79).trans (congrArg (fun z => put1 z 2 (.string ⟨#[]⟩)) ((put_self hv_78).trans (congrArg (fun z => put1 z 1 (.pointer (some ⟨g_1, 0, none⟩))) (put_self hv_77))))))))))))))⟩
  clear hv_77 hv_78 hv_79 hv_80 hv_81 hv_82 hv_83 hv_84
  refine CR.more ?_
  refine CW.seq ?_
  refine CW.region ?_
  refine SL.v (.bool true) ?_
  refine SL.nil ?_
  refine CW.seq ?_
  refine CW.cond_true (by kernel_rfl) ?_
  refine CW.skip ?_
  refine CW.seq ?_
  refine CW.block ?_
  refine CW.seq ?_
  refine CW.region ?_
  refine SL.v (.pointer (some ⟨g_4, 3, none⟩)) ?_
  refine SL.load (g := g_4) (off := 3) (v := .int .i64 (c.clean.modes % 4096)) rfl rfl rfl (by kernel_rfl) (hs_74.all 1 g_4 _ rfl) (by kernel_rfl) ?_
  refine SL.v (.int .i64 (c.clean.modes % 4096)) ?_
  refine SL.nil ?_
  refine CW.region ?_
  refine SL.v (.slice (some ⟨g_66, 0, none⟩) 3 cap_67) ?_
  refine SL.v (.int .i64 (c.clean.modes % 4096)) ?_
  refine SL.call (f := 50) (args := #[.int .i64 (c.clean.modes % 4096)]) (w1 := w_69) rfl rfl (by kernel_rfl) (itoa_d (c.clean.modes % 4096) w_69 (hn _ (by simp [Cor.nums])) (hT.gr hs_74.gr)) ?_
  rintro x w_85 ⟨rfl, hc_86⟩
  refine ⟨.string (dstr (c.clean.modes % 4096)), rfl, ?_⟩
  have hs_87 := hs_74.grow hc_86
  refine SL.new (mk := fun g => .slice (some ⟨g, 0, none⟩) 1 1) (C := #[.string (dstr (c.clean.modes % 4096))]) (T := 9) hs_87 rfl rfl (by kernel_rfl) (fun g_88 w_89 hs_90 => ?_)
  have hs_90 : Bk w w_89 [(g_1, .cells (cvA c) 46 (0, 0)), (g_4, .cells #[.int .i64 c.clean.level, .int .i64 (flagZ c.clean.eight), .int .i64 (c.clean.modes / 4096), .int .i64 (c.clean.modes % 4096), .int .i64 (flagZ c.clean.stream), .int .i64 c.clean.status, .int .i64 (flagZ c.clean.below), .int .i64 c.clean.mt, .int .i64 c.clean.ml, .int .i64 c.clean.mb, .int .i64 c.clean.mr, .int .i64 (flagZ c.clean.origin)] 3 (0, 0)), (g_66, .cells ⟨[.string (dstr c.clean.level), .string (dstr (flagZ c.clean.eight)), .string (dstr (c.clean.modes / 4096))] ++ pad_68⟩ 9 (0, 0)), (g_88, .cells #[.string (dstr (c.clean.modes % 4096))] 9 (0, 0))] := hs_90
  refine SL.app (z := .string ⟨#[]⟩) (size := 1) (bytes := 16) (el := 9) (m := 1) (news := [.string (dstr (c.clean.modes % 4096))]) (i := 2) (g := g_66) (k := 3) (cap := cap_67) (xs := [.string (dstr c.clean.level), .string (dstr (flagZ c.clean.eight)), .string (dstr (c.clean.modes / 4096))]) (pad := pad_68) (xs' := [.string (dstr c.clean.level), .string (dstr (flagZ c.clean.eight)), .string (dstr (c.clean.modes / 4096)), .string (dstr (c.clean.modes % 4096))]) (k' := 4) (L' := [(g_1, .cells (cvA c) 46 (0, 0)), (g_4, .cells #[.int .i64 c.clean.level, .int .i64 (flagZ c.clean.eight), .int .i64 (c.clean.modes / 4096), .int .i64 (c.clean.modes % 4096), .int .i64 (flagZ c.clean.stream), .int .i64 c.clean.status, .int .i64 (flagZ c.clean.below), .int .i64 c.clean.mt, .int .i64 c.clean.ml, .int .i64 c.clean.mb, .int .i64 c.clean.mr, .int .i64 (flagZ c.clean.origin)] 3 (0, 0)), (g_88, .cells #[.string (dstr (c.clean.modes % 4096))] 9 (0, 0))]) hs_90 rfl rfl rfl (by kernel_rfl) (by kernel_rfl) (by kernel_rfl) (by kernel_rfl) (by kernel_rfl) rfl rfl rfl hl_71 hc_72 hm_73 rfl (src_at (cs := [.string (dstr (c.clean.modes % 4096))]) (el := 9) (by kernel_rfl) (hs_90.all 3 g_88 _ rfl) rfl rfl (List.all_eq_true.1 (by kernel_rfl))) (by decide) rfl rfl rfl (fun g_91 cap_92 pad_93 w_94 hs_95 hl_96 hc_97 hm_98 => ?_)
  have hs_95 : Bk w w_94 [(g_1, .cells (cvA c) 46 (0, 0)), (g_4, .cells #[.int .i64 c.clean.level, .int .i64 (flagZ c.clean.eight), .int .i64 (c.clean.modes / 4096), .int .i64 (c.clean.modes % 4096), .int .i64 (flagZ c.clean.stream), .int .i64 c.clean.status, .int .i64 (flagZ c.clean.below), .int .i64 c.clean.mt, .int .i64 c.clean.ml, .int .i64 c.clean.mb, .int .i64 c.clean.mr, .int .i64 (flagZ c.clean.origin)] 3 (0, 0)), (g_88, .cells #[.string (dstr (c.clean.modes % 4096))] 9 (0, 0)), (g_91, .cells ⟨[.string (dstr c.clean.level), .string (dstr (flagZ c.clean.eight)), .string (dstr (c.clean.modes / 4096)), .string (dstr (c.clean.modes % 4096))] ++ pad_93⟩ 9 (0, 0))] := hs_95
  have hs_99 : Bk w w_94 [(g_1, .cells (cvA c) 46 (0, 0)), (g_4, .cells #[.int .i64 c.clean.level, .int .i64 (flagZ c.clean.eight), .int .i64 (c.clean.modes / 4096), .int .i64 (c.clean.modes % 4096), .int .i64 (flagZ c.clean.stream), .int .i64 c.clean.status, .int .i64 (flagZ c.clean.below), .int .i64 c.clean.mt, .int .i64 c.clean.ml, .int .i64 c.clean.mb, .int .i64 c.clean.mr, .int .i64 (flagZ c.clean.origin)] 3 (0, 0)), (g_91, .cells ⟨[.string (dstr c.clean.level), .string (dstr (flagZ c.clean.eight)), .string (dstr (c.clean.modes / 4096)), .string (dstr (c.clean.modes % 4096))] ++ pad_93⟩ 9 (0, 0))] := hs_95.erase 2
  refine SL.v (.slice (some ⟨g_91, 0, none⟩) 4 cap_92) ?_
  refine SL.nil ?_
  refine CW.region ?_
  refine SL.v (.int .i64 4) ?_
  refine SL.v (.int .i64 4) ?_
  refine SL.nil ?_
  refine CR.fresh (fun e9 => e9 0 = .agg (cvA c) ∧ e9 1 = .pointer (some ⟨g_1, 0, none⟩) ∧ e9 2 = .string ⟨#[]⟩ ∧ e9 3 = .slice (some ⟨g_91, 0, none⟩) 4 cap_92 ∧ e9 6 = .agg (cvA c) ∧ e9 7 = .slice (some ⟨g_4, 0, none⟩) 12 12 ∧ e9 8 = .int .i64 12 ∧ e9 9 = .int .i64 4) ⟨(by kernel_rfl), (by kernel_rfl), (by kernel_rfl), (by kernel_rfl), (by kernel_rfl), (by kernel_rfl), (by kernel_rfl), (by kernel_rfl)⟩ ?_
  rintro e_100 ⟨hv_102, hv_103, hv_104, hv_105, hv_106, hv_107, hv_108, hv_109⟩
  obtain ⟨e_101, rfl⟩ : ∃ e_101, e_100 = put1 (put1 (put1 (put1 (put1 (put1 (put1 (put1 e_101 0 (.agg (cvA c))) 1 (.pointer (some ⟨g_1, 0, none⟩))) 2 (.string ⟨#[]⟩)) 3 (.slice (some ⟨g_91, 0, none⟩) 4 cap_92)) 6 (.agg (cvA c))) 7 (.slice (some ⟨g_4, 0, none⟩) 12 12)) 8 (.int .i64 12)) 9 (.int .i64 4) := ⟨e_100, (put_self hv_109).trans (congrArg (fun z => put1 z 9 (.int .i64 4)) ((put_self hv_108).trans (congrArg (fun z => put1 z 8 (.int .i64 12)) ((put_self hv_107).trans (congrArg (fun z => put1 z 7 (.slice (some ⟨g_4, 0, none⟩) 12 12)) ((put_self hv_106).trans (congrArg (fun z => put1 z 6 (.agg (cvA c))) ((put_self hv_105).trans (congrArg (fun z => put1 z 3 (.slice (some ⟨g_91, 0, none⟩) 4 cap_92)) ((put_self hv_104).trans (congrArg (fun z => put1 z 2 (.string ⟨#[]⟩)) ((put_self hv_103).trans (congrArg (fun z => put1 z 1 (.pointer (some ⟨g_1, 0, none⟩))) (put_self hv_102))))))))))))))⟩
  clear hv_102 hv_103 hv_104 hv_105 hv_106 hv_107 hv_108 hv_109
  refine CR.more ?_
  refine CW.seq ?_
  refine CW.region ?_
  refine SL.v (.bool true) ?_
  refine SL.nil ?_
  refine CW.seq ?_
  refine CW.cond_true (by kernel_rfl) ?_
  refine CW.skip ?_
  refine CW.seq ?_
  refine CW.block ?_
  refine CW.seq ?_
  refine CW.region ?_
  refine SL.v (.pointer (some ⟨g_4, 4, none⟩)) ?_
  refine SL.load (g := g_4) (off := 4) (v := .int .i64 (flagZ c.clean.stream)) rfl rfl rfl (by kernel_rfl) (hs_99.all 1 g_4 _ rfl) (by kernel_rfl) ?_
  refine SL.v (.int .i64 (flagZ c.clean.stream)) ?_
  refine SL.nil ?_
  refine CW.region ?_
  refine SL.v (.slice (some ⟨g_91, 0, none⟩) 4 cap_92) ?_
  refine SL.v (.int .i64 (flagZ c.clean.stream)) ?_
  refine SL.call (f := 50) (args := #[.int .i64 (flagZ c.clean.stream)]) (w1 := w_94) rfl rfl (by kernel_rfl) (itoa_d (flagZ c.clean.stream) w_94 (hn _ (by simp [Cor.nums])) (hT.gr hs_99.gr)) ?_
  rintro x w_110 ⟨rfl, hc_111⟩
  refine ⟨.string (dstr (flagZ c.clean.stream)), rfl, ?_⟩
  have hs_112 := hs_99.grow hc_111
  refine SL.new (mk := fun g => .slice (some ⟨g, 0, none⟩) 1 1) (C := #[.string (dstr (flagZ c.clean.stream))]) (T := 9) hs_112 rfl rfl (by kernel_rfl) (fun g_113 w_114 hs_115 => ?_)
  have hs_115 : Bk w w_114 [(g_1, .cells (cvA c) 46 (0, 0)), (g_4, .cells #[.int .i64 c.clean.level, .int .i64 (flagZ c.clean.eight), .int .i64 (c.clean.modes / 4096), .int .i64 (c.clean.modes % 4096), .int .i64 (flagZ c.clean.stream), .int .i64 c.clean.status, .int .i64 (flagZ c.clean.below), .int .i64 c.clean.mt, .int .i64 c.clean.ml, .int .i64 c.clean.mb, .int .i64 c.clean.mr, .int .i64 (flagZ c.clean.origin)] 3 (0, 0)), (g_91, .cells ⟨[.string (dstr c.clean.level), .string (dstr (flagZ c.clean.eight)), .string (dstr (c.clean.modes / 4096)), .string (dstr (c.clean.modes % 4096))] ++ pad_93⟩ 9 (0, 0)), (g_113, .cells #[.string (dstr (flagZ c.clean.stream))] 9 (0, 0))] := hs_115
  refine SL.app (z := .string ⟨#[]⟩) (size := 1) (bytes := 16) (el := 9) (m := 1) (news := [.string (dstr (flagZ c.clean.stream))]) (i := 2) (g := g_91) (k := 4) (cap := cap_92) (xs := [.string (dstr c.clean.level), .string (dstr (flagZ c.clean.eight)), .string (dstr (c.clean.modes / 4096)), .string (dstr (c.clean.modes % 4096))]) (pad := pad_93) (xs' := [.string (dstr c.clean.level), .string (dstr (flagZ c.clean.eight)), .string (dstr (c.clean.modes / 4096)), .string (dstr (c.clean.modes % 4096)), .string (dstr (flagZ c.clean.stream))]) (k' := 5) (L' := [(g_1, .cells (cvA c) 46 (0, 0)), (g_4, .cells #[.int .i64 c.clean.level, .int .i64 (flagZ c.clean.eight), .int .i64 (c.clean.modes / 4096), .int .i64 (c.clean.modes % 4096), .int .i64 (flagZ c.clean.stream), .int .i64 c.clean.status, .int .i64 (flagZ c.clean.below), .int .i64 c.clean.mt, .int .i64 c.clean.ml, .int .i64 c.clean.mb, .int .i64 c.clean.mr, .int .i64 (flagZ c.clean.origin)] 3 (0, 0)), (g_113, .cells #[.string (dstr (flagZ c.clean.stream))] 9 (0, 0))]) hs_115 rfl rfl rfl (by kernel_rfl) (by kernel_rfl) (by kernel_rfl) (by kernel_rfl) (by kernel_rfl) rfl rfl rfl hl_96 hc_97 hm_98 rfl (src_at (cs := [.string (dstr (flagZ c.clean.stream))]) (el := 9) (by kernel_rfl) (hs_115.all 3 g_113 _ rfl) rfl rfl (List.all_eq_true.1 (by kernel_rfl))) (by decide) rfl rfl rfl (fun g_116 cap_117 pad_118 w_119 hs_120 hl_121 hc_122 hm_123 => ?_)
  have hs_120 : Bk w w_119 [(g_1, .cells (cvA c) 46 (0, 0)), (g_4, .cells #[.int .i64 c.clean.level, .int .i64 (flagZ c.clean.eight), .int .i64 (c.clean.modes / 4096), .int .i64 (c.clean.modes % 4096), .int .i64 (flagZ c.clean.stream), .int .i64 c.clean.status, .int .i64 (flagZ c.clean.below), .int .i64 c.clean.mt, .int .i64 c.clean.ml, .int .i64 c.clean.mb, .int .i64 c.clean.mr, .int .i64 (flagZ c.clean.origin)] 3 (0, 0)), (g_113, .cells #[.string (dstr (flagZ c.clean.stream))] 9 (0, 0)), (g_116, .cells ⟨[.string (dstr c.clean.level), .string (dstr (flagZ c.clean.eight)), .string (dstr (c.clean.modes / 4096)), .string (dstr (c.clean.modes % 4096)), .string (dstr (flagZ c.clean.stream))] ++ pad_118⟩ 9 (0, 0))] := hs_120
  have hs_124 : Bk w w_119 [(g_1, .cells (cvA c) 46 (0, 0)), (g_4, .cells #[.int .i64 c.clean.level, .int .i64 (flagZ c.clean.eight), .int .i64 (c.clean.modes / 4096), .int .i64 (c.clean.modes % 4096), .int .i64 (flagZ c.clean.stream), .int .i64 c.clean.status, .int .i64 (flagZ c.clean.below), .int .i64 c.clean.mt, .int .i64 c.clean.ml, .int .i64 c.clean.mb, .int .i64 c.clean.mr, .int .i64 (flagZ c.clean.origin)] 3 (0, 0)), (g_116, .cells ⟨[.string (dstr c.clean.level), .string (dstr (flagZ c.clean.eight)), .string (dstr (c.clean.modes / 4096)), .string (dstr (c.clean.modes % 4096)), .string (dstr (flagZ c.clean.stream))] ++ pad_118⟩ 9 (0, 0))] := hs_120.erase 2
  refine SL.v (.slice (some ⟨g_116, 0, none⟩) 5 cap_117) ?_
  refine SL.nil ?_
  refine CW.region ?_
  refine SL.v (.int .i64 5) ?_
  refine SL.v (.int .i64 5) ?_
  refine SL.nil ?_
  refine CR.fresh (fun e9 => e9 0 = .agg (cvA c) ∧ e9 1 = .pointer (some ⟨g_1, 0, none⟩) ∧ e9 2 = .string ⟨#[]⟩ ∧ e9 3 = .slice (some ⟨g_116, 0, none⟩) 5 cap_117 ∧ e9 6 = .agg (cvA c) ∧ e9 7 = .slice (some ⟨g_4, 0, none⟩) 12 12 ∧ e9 8 = .int .i64 12 ∧ e9 9 = .int .i64 5) ⟨(by kernel_rfl), (by kernel_rfl), (by kernel_rfl), (by kernel_rfl), (by kernel_rfl), (by kernel_rfl), (by kernel_rfl), (by kernel_rfl)⟩ ?_
  rintro e_125 ⟨hv_127, hv_128, hv_129, hv_130, hv_131, hv_132, hv_133, hv_134⟩
  obtain ⟨e_126, rfl⟩ : ∃ e_126, e_125 = put1 (put1 (put1 (put1 (put1 (put1 (put1 (put1 e_126 0 (.agg (cvA c))) 1 (.pointer (some ⟨g_1, 0, none⟩))) 2 (.string ⟨#[]⟩)) 3 (.slice (some ⟨g_116, 0, none⟩) 5 cap_117)) 6 (.agg (cvA c))) 7 (.slice (some ⟨g_4, 0, none⟩) 12 12)) 8 (.int .i64 12)) 9 (.int .i64 5) := ⟨e_125, (put_self hv_134).trans (congrArg (fun z => put1 z 9 (.int .i64 5)) ((put_self hv_133).trans (congrArg (fun z => put1 z 8 (.int .i64 12)) ((put_self hv_132).trans (congrArg (fun z => put1 z 7 (.slice (some ⟨g_4, 0, none⟩) 12 12)) ((put_self hv_131).trans (congrArg (fun z => put1 z 6 (.agg (cvA c))) ((put_self hv_130).trans (congrArg (fun z => put1 z 3 (.slice (some ⟨g_116, 0, none⟩) 5 cap_117)) ((put_self hv_129).trans (congrArg (fun z => put1 z 2 (.string ⟨#[]⟩)) ((put_self hv_128).trans (congrArg (fun z => put1 z 1 (.pointer (some ⟨g_1, 0, none⟩))) (put_self hv_127))))))))))))))⟩
  clear hv_127 hv_128 hv_129 hv_130 hv_131 hv_132 hv_133 hv_134
  refine CR.more ?_
  refine CW.seq ?_
  refine CW.region ?_
  refine SL.v (.bool true) ?_
  refine SL.nil ?_
  refine CW.seq ?_
  refine CW.cond_true (by kernel_rfl) ?_
  refine CW.skip ?_
  refine CW.seq ?_
  refine CW.block ?_
  refine CW.seq ?_
  refine CW.region ?_
  refine SL.v (.pointer (some ⟨g_4, 5, none⟩)) ?_
  refine SL.load (g := g_4) (off := 5) (v := .int .i64 c.clean.status) rfl rfl rfl (by kernel_rfl) (hs_124.all 1 g_4 _ rfl) (by kernel_rfl) ?_
  refine SL.v (.int .i64 c.clean.status) ?_
  refine SL.nil ?_
  refine CW.region ?_
  refine SL.v (.slice (some ⟨g_116, 0, none⟩) 5 cap_117) ?_
  refine SL.v (.int .i64 c.clean.status) ?_
  refine SL.call (f := 50) (args := #[.int .i64 c.clean.status]) (w1 := w_119) rfl rfl (by kernel_rfl) (itoa_d c.clean.status w_119 (hn _ (by simp [Cor.nums])) (hT.gr hs_124.gr)) ?_
  rintro x w_135 ⟨rfl, hc_136⟩
  refine ⟨.string (dstr c.clean.status), rfl, ?_⟩
  have hs_137 := hs_124.grow hc_136
  refine SL.new (mk := fun g => .slice (some ⟨g, 0, none⟩) 1 1) (C := #[.string (dstr c.clean.status)]) (T := 9) hs_137 rfl rfl (by kernel_rfl) (fun g_138 w_139 hs_140 => ?_)
  have hs_140 : Bk w w_139 [(g_1, .cells (cvA c) 46 (0, 0)), (g_4, .cells #[.int .i64 c.clean.level, .int .i64 (flagZ c.clean.eight), .int .i64 (c.clean.modes / 4096), .int .i64 (c.clean.modes % 4096), .int .i64 (flagZ c.clean.stream), .int .i64 c.clean.status, .int .i64 (flagZ c.clean.below), .int .i64 c.clean.mt, .int .i64 c.clean.ml, .int .i64 c.clean.mb, .int .i64 c.clean.mr, .int .i64 (flagZ c.clean.origin)] 3 (0, 0)), (g_116, .cells ⟨[.string (dstr c.clean.level), .string (dstr (flagZ c.clean.eight)), .string (dstr (c.clean.modes / 4096)), .string (dstr (c.clean.modes % 4096)), .string (dstr (flagZ c.clean.stream))] ++ pad_118⟩ 9 (0, 0)), (g_138, .cells #[.string (dstr c.clean.status)] 9 (0, 0))] := hs_140
  refine SL.app (z := .string ⟨#[]⟩) (size := 1) (bytes := 16) (el := 9) (m := 1) (news := [.string (dstr c.clean.status)]) (i := 2) (g := g_116) (k := 5) (cap := cap_117) (xs := [.string (dstr c.clean.level), .string (dstr (flagZ c.clean.eight)), .string (dstr (c.clean.modes / 4096)), .string (dstr (c.clean.modes % 4096)), .string (dstr (flagZ c.clean.stream))]) (pad := pad_118) (xs' := [.string (dstr c.clean.level), .string (dstr (flagZ c.clean.eight)), .string (dstr (c.clean.modes / 4096)), .string (dstr (c.clean.modes % 4096)), .string (dstr (flagZ c.clean.stream)), .string (dstr c.clean.status)]) (k' := 6) (L' := [(g_1, .cells (cvA c) 46 (0, 0)), (g_4, .cells #[.int .i64 c.clean.level, .int .i64 (flagZ c.clean.eight), .int .i64 (c.clean.modes / 4096), .int .i64 (c.clean.modes % 4096), .int .i64 (flagZ c.clean.stream), .int .i64 c.clean.status, .int .i64 (flagZ c.clean.below), .int .i64 c.clean.mt, .int .i64 c.clean.ml, .int .i64 c.clean.mb, .int .i64 c.clean.mr, .int .i64 (flagZ c.clean.origin)] 3 (0, 0)), (g_138, .cells #[.string (dstr c.clean.status)] 9 (0, 0))]) hs_140 rfl rfl rfl (by kernel_rfl) (by kernel_rfl) (by kernel_rfl) (by kernel_rfl) (by kernel_rfl) rfl rfl rfl hl_121 hc_122 hm_123 rfl (src_at (cs := [.string (dstr c.clean.status)]) (el := 9) (by kernel_rfl) (hs_140.all 3 g_138 _ rfl) rfl rfl (List.all_eq_true.1 (by kernel_rfl))) (by decide) rfl rfl rfl (fun g_141 cap_142 pad_143 w_144 hs_145 hl_146 hc_147 hm_148 => ?_)
  have hs_145 : Bk w w_144 [(g_1, .cells (cvA c) 46 (0, 0)), (g_4, .cells #[.int .i64 c.clean.level, .int .i64 (flagZ c.clean.eight), .int .i64 (c.clean.modes / 4096), .int .i64 (c.clean.modes % 4096), .int .i64 (flagZ c.clean.stream), .int .i64 c.clean.status, .int .i64 (flagZ c.clean.below), .int .i64 c.clean.mt, .int .i64 c.clean.ml, .int .i64 c.clean.mb, .int .i64 c.clean.mr, .int .i64 (flagZ c.clean.origin)] 3 (0, 0)), (g_138, .cells #[.string (dstr c.clean.status)] 9 (0, 0)), (g_141, .cells ⟨[.string (dstr c.clean.level), .string (dstr (flagZ c.clean.eight)), .string (dstr (c.clean.modes / 4096)), .string (dstr (c.clean.modes % 4096)), .string (dstr (flagZ c.clean.stream)), .string (dstr c.clean.status)] ++ pad_143⟩ 9 (0, 0))] := hs_145
  have hs_149 : Bk w w_144 [(g_1, .cells (cvA c) 46 (0, 0)), (g_4, .cells #[.int .i64 c.clean.level, .int .i64 (flagZ c.clean.eight), .int .i64 (c.clean.modes / 4096), .int .i64 (c.clean.modes % 4096), .int .i64 (flagZ c.clean.stream), .int .i64 c.clean.status, .int .i64 (flagZ c.clean.below), .int .i64 c.clean.mt, .int .i64 c.clean.ml, .int .i64 c.clean.mb, .int .i64 c.clean.mr, .int .i64 (flagZ c.clean.origin)] 3 (0, 0)), (g_141, .cells ⟨[.string (dstr c.clean.level), .string (dstr (flagZ c.clean.eight)), .string (dstr (c.clean.modes / 4096)), .string (dstr (c.clean.modes % 4096)), .string (dstr (flagZ c.clean.stream)), .string (dstr c.clean.status)] ++ pad_143⟩ 9 (0, 0))] := hs_145.erase 2
  refine SL.v (.slice (some ⟨g_141, 0, none⟩) 6 cap_142) ?_
  refine SL.nil ?_
  refine CW.region ?_
  refine SL.v (.int .i64 6) ?_
  refine SL.v (.int .i64 6) ?_
  refine SL.nil ?_
  refine CR.fresh (fun e9 => e9 0 = .agg (cvA c) ∧ e9 1 = .pointer (some ⟨g_1, 0, none⟩) ∧ e9 2 = .string ⟨#[]⟩ ∧ e9 3 = .slice (some ⟨g_141, 0, none⟩) 6 cap_142 ∧ e9 6 = .agg (cvA c) ∧ e9 7 = .slice (some ⟨g_4, 0, none⟩) 12 12 ∧ e9 8 = .int .i64 12 ∧ e9 9 = .int .i64 6) ⟨(by kernel_rfl), (by kernel_rfl), (by kernel_rfl), (by kernel_rfl), (by kernel_rfl), (by kernel_rfl), (by kernel_rfl), (by kernel_rfl)⟩ ?_
  rintro e_150 ⟨hv_152, hv_153, hv_154, hv_155, hv_156, hv_157, hv_158, hv_159⟩
  obtain ⟨e_151, rfl⟩ : ∃ e_151, e_150 = put1 (put1 (put1 (put1 (put1 (put1 (put1 (put1 e_151 0 (.agg (cvA c))) 1 (.pointer (some ⟨g_1, 0, none⟩))) 2 (.string ⟨#[]⟩)) 3 (.slice (some ⟨g_141, 0, none⟩) 6 cap_142)) 6 (.agg (cvA c))) 7 (.slice (some ⟨g_4, 0, none⟩) 12 12)) 8 (.int .i64 12)) 9 (.int .i64 6) := ⟨e_150, (put_self hv_159).trans (congrArg (fun z => put1 z 9 (.int .i64 6)) ((put_self hv_158).trans (congrArg (fun z => put1 z 8 (.int .i64 12)) ((put_self hv_157).trans (congrArg (fun z => put1 z 7 (.slice (some ⟨g_4, 0, none⟩) 12 12)) ((put_self hv_156).trans (congrArg (fun z => put1 z 6 (.agg (cvA c))) ((put_self hv_155).trans (congrArg (fun z => put1 z 3 (.slice (some ⟨g_141, 0, none⟩) 6 cap_142)) ((put_self hv_154).trans (congrArg (fun z => put1 z 2 (.string ⟨#[]⟩)) ((put_self hv_153).trans (congrArg (fun z => put1 z 1 (.pointer (some ⟨g_1, 0, none⟩))) (put_self hv_152))))))))))))))⟩
  clear hv_152 hv_153 hv_154 hv_155 hv_156 hv_157 hv_158 hv_159
  refine CR.more ?_
  refine CW.seq ?_
  refine CW.region ?_
  refine SL.v (.bool true) ?_
  refine SL.nil ?_
  refine CW.seq ?_
  refine CW.cond_true (by kernel_rfl) ?_
  refine CW.skip ?_
  refine CW.seq ?_
  refine CW.block ?_
  refine CW.seq ?_
  refine CW.region ?_
  refine SL.v (.pointer (some ⟨g_4, 6, none⟩)) ?_
  refine SL.load (g := g_4) (off := 6) (v := .int .i64 (flagZ c.clean.below)) rfl rfl rfl (by kernel_rfl) (hs_149.all 1 g_4 _ rfl) (by kernel_rfl) ?_
  refine SL.v (.int .i64 (flagZ c.clean.below)) ?_
  refine SL.nil ?_
  refine CW.region ?_
  refine SL.v (.slice (some ⟨g_141, 0, none⟩) 6 cap_142) ?_
  refine SL.v (.int .i64 (flagZ c.clean.below)) ?_
  refine SL.call (f := 50) (args := #[.int .i64 (flagZ c.clean.below)]) (w1 := w_144) rfl rfl (by kernel_rfl) (itoa_d (flagZ c.clean.below) w_144 (hn _ (by simp [Cor.nums])) (hT.gr hs_149.gr)) ?_
  rintro x w_160 ⟨rfl, hc_161⟩
  refine ⟨.string (dstr (flagZ c.clean.below)), rfl, ?_⟩
  have hs_162 := hs_149.grow hc_161
  refine SL.new (mk := fun g => .slice (some ⟨g, 0, none⟩) 1 1) (C := #[.string (dstr (flagZ c.clean.below))]) (T := 9) hs_162 rfl rfl (by kernel_rfl) (fun g_163 w_164 hs_165 => ?_)
  have hs_165 : Bk w w_164 [(g_1, .cells (cvA c) 46 (0, 0)), (g_4, .cells #[.int .i64 c.clean.level, .int .i64 (flagZ c.clean.eight), .int .i64 (c.clean.modes / 4096), .int .i64 (c.clean.modes % 4096), .int .i64 (flagZ c.clean.stream), .int .i64 c.clean.status, .int .i64 (flagZ c.clean.below), .int .i64 c.clean.mt, .int .i64 c.clean.ml, .int .i64 c.clean.mb, .int .i64 c.clean.mr, .int .i64 (flagZ c.clean.origin)] 3 (0, 0)), (g_141, .cells ⟨[.string (dstr c.clean.level), .string (dstr (flagZ c.clean.eight)), .string (dstr (c.clean.modes / 4096)), .string (dstr (c.clean.modes % 4096)), .string (dstr (flagZ c.clean.stream)), .string (dstr c.clean.status)] ++ pad_143⟩ 9 (0, 0)), (g_163, .cells #[.string (dstr (flagZ c.clean.below))] 9 (0, 0))] := hs_165
  refine SL.app (z := .string ⟨#[]⟩) (size := 1) (bytes := 16) (el := 9) (m := 1) (news := [.string (dstr (flagZ c.clean.below))]) (i := 2) (g := g_141) (k := 6) (cap := cap_142) (xs := [.string (dstr c.clean.level), .string (dstr (flagZ c.clean.eight)), .string (dstr (c.clean.modes / 4096)), .string (dstr (c.clean.modes % 4096)), .string (dstr (flagZ c.clean.stream)), .string (dstr c.clean.status)]) (pad := pad_143) (xs' := [.string (dstr c.clean.level), .string (dstr (flagZ c.clean.eight)), .string (dstr (c.clean.modes / 4096)), .string (dstr (c.clean.modes % 4096)), .string (dstr (flagZ c.clean.stream)), .string (dstr c.clean.status), .string (dstr (flagZ c.clean.below))]) (k' := 7) (L' := [(g_1, .cells (cvA c) 46 (0, 0)), (g_4, .cells #[.int .i64 c.clean.level, .int .i64 (flagZ c.clean.eight), .int .i64 (c.clean.modes / 4096), .int .i64 (c.clean.modes % 4096), .int .i64 (flagZ c.clean.stream), .int .i64 c.clean.status, .int .i64 (flagZ c.clean.below), .int .i64 c.clean.mt, .int .i64 c.clean.ml, .int .i64 c.clean.mb, .int .i64 c.clean.mr, .int .i64 (flagZ c.clean.origin)] 3 (0, 0)), (g_163, .cells #[.string (dstr (flagZ c.clean.below))] 9 (0, 0))]) hs_165 rfl rfl rfl (by kernel_rfl) (by kernel_rfl) (by kernel_rfl) (by kernel_rfl) (by kernel_rfl) rfl rfl rfl hl_146 hc_147 hm_148 rfl (src_at (cs := [.string (dstr (flagZ c.clean.below))]) (el := 9) (by kernel_rfl) (hs_165.all 3 g_163 _ rfl) rfl rfl (List.all_eq_true.1 (by kernel_rfl))) (by decide) rfl rfl rfl (fun g_166 cap_167 pad_168 w_169 hs_170 hl_171 hc_172 hm_173 => ?_)
  have hs_170 : Bk w w_169 [(g_1, .cells (cvA c) 46 (0, 0)), (g_4, .cells #[.int .i64 c.clean.level, .int .i64 (flagZ c.clean.eight), .int .i64 (c.clean.modes / 4096), .int .i64 (c.clean.modes % 4096), .int .i64 (flagZ c.clean.stream), .int .i64 c.clean.status, .int .i64 (flagZ c.clean.below), .int .i64 c.clean.mt, .int .i64 c.clean.ml, .int .i64 c.clean.mb, .int .i64 c.clean.mr, .int .i64 (flagZ c.clean.origin)] 3 (0, 0)), (g_163, .cells #[.string (dstr (flagZ c.clean.below))] 9 (0, 0)), (g_166, .cells ⟨[.string (dstr c.clean.level), .string (dstr (flagZ c.clean.eight)), .string (dstr (c.clean.modes / 4096)), .string (dstr (c.clean.modes % 4096)), .string (dstr (flagZ c.clean.stream)), .string (dstr c.clean.status), .string (dstr (flagZ c.clean.below))] ++ pad_168⟩ 9 (0, 0))] := hs_170
  have hs_174 : Bk w w_169 [(g_1, .cells (cvA c) 46 (0, 0)), (g_4, .cells #[.int .i64 c.clean.level, .int .i64 (flagZ c.clean.eight), .int .i64 (c.clean.modes / 4096), .int .i64 (c.clean.modes % 4096), .int .i64 (flagZ c.clean.stream), .int .i64 c.clean.status, .int .i64 (flagZ c.clean.below), .int .i64 c.clean.mt, .int .i64 c.clean.ml, .int .i64 c.clean.mb, .int .i64 c.clean.mr, .int .i64 (flagZ c.clean.origin)] 3 (0, 0)), (g_166, .cells ⟨[.string (dstr c.clean.level), .string (dstr (flagZ c.clean.eight)), .string (dstr (c.clean.modes / 4096)), .string (dstr (c.clean.modes % 4096)), .string (dstr (flagZ c.clean.stream)), .string (dstr c.clean.status), .string (dstr (flagZ c.clean.below))] ++ pad_168⟩ 9 (0, 0))] := hs_170.erase 2
  refine SL.v (.slice (some ⟨g_166, 0, none⟩) 7 cap_167) ?_
  refine SL.nil ?_
  refine CW.region ?_
  refine SL.v (.int .i64 7) ?_
  refine SL.v (.int .i64 7) ?_
  refine SL.nil ?_
  refine CR.fresh (fun e9 => e9 0 = .agg (cvA c) ∧ e9 1 = .pointer (some ⟨g_1, 0, none⟩) ∧ e9 2 = .string ⟨#[]⟩ ∧ e9 3 = .slice (some ⟨g_166, 0, none⟩) 7 cap_167 ∧ e9 6 = .agg (cvA c) ∧ e9 7 = .slice (some ⟨g_4, 0, none⟩) 12 12 ∧ e9 8 = .int .i64 12 ∧ e9 9 = .int .i64 7) ⟨(by kernel_rfl), (by kernel_rfl), (by kernel_rfl), (by kernel_rfl), (by kernel_rfl), (by kernel_rfl), (by kernel_rfl), (by kernel_rfl)⟩ ?_
  rintro e_175 ⟨hv_177, hv_178, hv_179, hv_180, hv_181, hv_182, hv_183, hv_184⟩
  obtain ⟨e_176, rfl⟩ : ∃ e_176, e_175 = put1 (put1 (put1 (put1 (put1 (put1 (put1 (put1 e_176 0 (.agg (cvA c))) 1 (.pointer (some ⟨g_1, 0, none⟩))) 2 (.string ⟨#[]⟩)) 3 (.slice (some ⟨g_166, 0, none⟩) 7 cap_167)) 6 (.agg (cvA c))) 7 (.slice (some ⟨g_4, 0, none⟩) 12 12)) 8 (.int .i64 12)) 9 (.int .i64 7) := ⟨e_175, (put_self hv_184).trans (congrArg (fun z => put1 z 9 (.int .i64 7)) ((put_self hv_183).trans (congrArg (fun z => put1 z 8 (.int .i64 12)) ((put_self hv_182).trans (congrArg (fun z => put1 z 7 (.slice (some ⟨g_4, 0, none⟩) 12 12)) ((put_self hv_181).trans (congrArg (fun z => put1 z 6 (.agg (cvA c))) ((put_self hv_180).trans (congrArg (fun z => put1 z 3 (.slice (some ⟨g_166, 0, none⟩) 7 cap_167)) ((put_self hv_179).trans (congrArg (fun z => put1 z 2 (.string ⟨#[]⟩)) ((put_self hv_178).trans (congrArg (fun z => put1 z 1 (.pointer (some ⟨g_1, 0, none⟩))) (put_self hv_177))))))))))))))⟩
  clear hv_177 hv_178 hv_179 hv_180 hv_181 hv_182 hv_183 hv_184
  refine CR.more ?_
  refine CW.seq ?_
  refine CW.region ?_
  refine SL.v (.bool true) ?_
  refine SL.nil ?_
  refine CW.seq ?_
  refine CW.cond_true (by kernel_rfl) ?_
  refine CW.skip ?_
  refine CW.seq ?_
  refine CW.block ?_
  refine CW.seq ?_
  refine CW.region ?_
  refine SL.v (.pointer (some ⟨g_4, 7, none⟩)) ?_
  refine SL.load (g := g_4) (off := 7) (v := .int .i64 c.clean.mt) rfl rfl rfl (by kernel_rfl) (hs_174.all 1 g_4 _ rfl) (by kernel_rfl) ?_
  refine SL.v (.int .i64 c.clean.mt) ?_
  refine SL.nil ?_
  refine CW.region ?_
  refine SL.v (.slice (some ⟨g_166, 0, none⟩) 7 cap_167) ?_
  refine SL.v (.int .i64 c.clean.mt) ?_
  refine SL.call (f := 50) (args := #[.int .i64 c.clean.mt]) (w1 := w_169) rfl rfl (by kernel_rfl) (itoa_d c.clean.mt w_169 (hn _ (by simp [Cor.nums])) (hT.gr hs_174.gr)) ?_
  rintro x w_185 ⟨rfl, hc_186⟩
  refine ⟨.string (dstr c.clean.mt), rfl, ?_⟩
  have hs_187 := hs_174.grow hc_186
  refine SL.new (mk := fun g => .slice (some ⟨g, 0, none⟩) 1 1) (C := #[.string (dstr c.clean.mt)]) (T := 9) hs_187 rfl rfl (by kernel_rfl) (fun g_188 w_189 hs_190 => ?_)
  have hs_190 : Bk w w_189 [(g_1, .cells (cvA c) 46 (0, 0)), (g_4, .cells #[.int .i64 c.clean.level, .int .i64 (flagZ c.clean.eight), .int .i64 (c.clean.modes / 4096), .int .i64 (c.clean.modes % 4096), .int .i64 (flagZ c.clean.stream), .int .i64 c.clean.status, .int .i64 (flagZ c.clean.below), .int .i64 c.clean.mt, .int .i64 c.clean.ml, .int .i64 c.clean.mb, .int .i64 c.clean.mr, .int .i64 (flagZ c.clean.origin)] 3 (0, 0)), (g_166, .cells ⟨[.string (dstr c.clean.level), .string (dstr (flagZ c.clean.eight)), .string (dstr (c.clean.modes / 4096)), .string (dstr (c.clean.modes % 4096)), .string (dstr (flagZ c.clean.stream)), .string (dstr c.clean.status), .string (dstr (flagZ c.clean.below))] ++ pad_168⟩ 9 (0, 0)), (g_188, .cells #[.string (dstr c.clean.mt)] 9 (0, 0))] := hs_190
  refine SL.app (z := .string ⟨#[]⟩) (size := 1) (bytes := 16) (el := 9) (m := 1) (news := [.string (dstr c.clean.mt)]) (i := 2) (g := g_166) (k := 7) (cap := cap_167) (xs := [.string (dstr c.clean.level), .string (dstr (flagZ c.clean.eight)), .string (dstr (c.clean.modes / 4096)), .string (dstr (c.clean.modes % 4096)), .string (dstr (flagZ c.clean.stream)), .string (dstr c.clean.status), .string (dstr (flagZ c.clean.below))]) (pad := pad_168) (xs' := [.string (dstr c.clean.level), .string (dstr (flagZ c.clean.eight)), .string (dstr (c.clean.modes / 4096)), .string (dstr (c.clean.modes % 4096)), .string (dstr (flagZ c.clean.stream)), .string (dstr c.clean.status), .string (dstr (flagZ c.clean.below)), .string (dstr c.clean.mt)]) (k' := 8) (L' := [(g_1, .cells (cvA c) 46 (0, 0)), (g_4, .cells #[.int .i64 c.clean.level, .int .i64 (flagZ c.clean.eight), .int .i64 (c.clean.modes / 4096), .int .i64 (c.clean.modes % 4096), .int .i64 (flagZ c.clean.stream), .int .i64 c.clean.status, .int .i64 (flagZ c.clean.below), .int .i64 c.clean.mt, .int .i64 c.clean.ml, .int .i64 c.clean.mb, .int .i64 c.clean.mr, .int .i64 (flagZ c.clean.origin)] 3 (0, 0)), (g_188, .cells #[.string (dstr c.clean.mt)] 9 (0, 0))]) hs_190 rfl rfl rfl (by kernel_rfl) (by kernel_rfl) (by kernel_rfl) (by kernel_rfl) (by kernel_rfl) rfl rfl rfl hl_171 hc_172 hm_173 rfl (src_at (cs := [.string (dstr c.clean.mt)]) (el := 9) (by kernel_rfl) (hs_190.all 3 g_188 _ rfl) rfl rfl (List.all_eq_true.1 (by kernel_rfl))) (by decide) rfl rfl rfl (fun g_191 cap_192 pad_193 w_194 hs_195 hl_196 hc_197 hm_198 => ?_)
  have hs_195 : Bk w w_194 [(g_1, .cells (cvA c) 46 (0, 0)), (g_4, .cells #[.int .i64 c.clean.level, .int .i64 (flagZ c.clean.eight), .int .i64 (c.clean.modes / 4096), .int .i64 (c.clean.modes % 4096), .int .i64 (flagZ c.clean.stream), .int .i64 c.clean.status, .int .i64 (flagZ c.clean.below), .int .i64 c.clean.mt, .int .i64 c.clean.ml, .int .i64 c.clean.mb, .int .i64 c.clean.mr, .int .i64 (flagZ c.clean.origin)] 3 (0, 0)), (g_188, .cells #[.string (dstr c.clean.mt)] 9 (0, 0)), (g_191, .cells ⟨[.string (dstr c.clean.level), .string (dstr (flagZ c.clean.eight)), .string (dstr (c.clean.modes / 4096)), .string (dstr (c.clean.modes % 4096)), .string (dstr (flagZ c.clean.stream)), .string (dstr c.clean.status), .string (dstr (flagZ c.clean.below)), .string (dstr c.clean.mt)] ++ pad_193⟩ 9 (0, 0))] := hs_195
  have hs_199 : Bk w w_194 [(g_1, .cells (cvA c) 46 (0, 0)), (g_4, .cells #[.int .i64 c.clean.level, .int .i64 (flagZ c.clean.eight), .int .i64 (c.clean.modes / 4096), .int .i64 (c.clean.modes % 4096), .int .i64 (flagZ c.clean.stream), .int .i64 c.clean.status, .int .i64 (flagZ c.clean.below), .int .i64 c.clean.mt, .int .i64 c.clean.ml, .int .i64 c.clean.mb, .int .i64 c.clean.mr, .int .i64 (flagZ c.clean.origin)] 3 (0, 0)), (g_191, .cells ⟨[.string (dstr c.clean.level), .string (dstr (flagZ c.clean.eight)), .string (dstr (c.clean.modes / 4096)), .string (dstr (c.clean.modes % 4096)), .string (dstr (flagZ c.clean.stream)), .string (dstr c.clean.status), .string (dstr (flagZ c.clean.below)), .string (dstr c.clean.mt)] ++ pad_193⟩ 9 (0, 0))] := hs_195.erase 2
  refine SL.v (.slice (some ⟨g_191, 0, none⟩) 8 cap_192) ?_
  refine SL.nil ?_
  refine CW.region ?_
  refine SL.v (.int .i64 8) ?_
  refine SL.v (.int .i64 8) ?_
  refine SL.nil ?_
  refine CR.fresh (fun e9 => e9 0 = .agg (cvA c) ∧ e9 1 = .pointer (some ⟨g_1, 0, none⟩) ∧ e9 2 = .string ⟨#[]⟩ ∧ e9 3 = .slice (some ⟨g_191, 0, none⟩) 8 cap_192 ∧ e9 6 = .agg (cvA c) ∧ e9 7 = .slice (some ⟨g_4, 0, none⟩) 12 12 ∧ e9 8 = .int .i64 12 ∧ e9 9 = .int .i64 8) ⟨(by kernel_rfl), (by kernel_rfl), (by kernel_rfl), (by kernel_rfl), (by kernel_rfl), (by kernel_rfl), (by kernel_rfl), (by kernel_rfl)⟩ ?_
  rintro e_200 ⟨hv_202, hv_203, hv_204, hv_205, hv_206, hv_207, hv_208, hv_209⟩
  obtain ⟨e_201, rfl⟩ : ∃ e_201, e_200 = put1 (put1 (put1 (put1 (put1 (put1 (put1 (put1 e_201 0 (.agg (cvA c))) 1 (.pointer (some ⟨g_1, 0, none⟩))) 2 (.string ⟨#[]⟩)) 3 (.slice (some ⟨g_191, 0, none⟩) 8 cap_192)) 6 (.agg (cvA c))) 7 (.slice (some ⟨g_4, 0, none⟩) 12 12)) 8 (.int .i64 12)) 9 (.int .i64 8) := ⟨e_200, (put_self hv_209).trans (congrArg (fun z => put1 z 9 (.int .i64 8)) ((put_self hv_208).trans (congrArg (fun z => put1 z 8 (.int .i64 12)) ((put_self hv_207).trans (congrArg (fun z => put1 z 7 (.slice (some ⟨g_4, 0, none⟩) 12 12)) ((put_self hv_206).trans (congrArg (fun z => put1 z 6 (.agg (cvA c))) ((put_self hv_205).trans (congrArg (fun z => put1 z 3 (.slice (some ⟨g_191, 0, none⟩) 8 cap_192)) ((put_self hv_204).trans (congrArg (fun z => put1 z 2 (.string ⟨#[]⟩)) ((put_self hv_203).trans (congrArg (fun z => put1 z 1 (.pointer (some ⟨g_1, 0, none⟩))) (put_self hv_202))))))))))))))⟩
  clear hv_202 hv_203 hv_204 hv_205 hv_206 hv_207 hv_208 hv_209
  refine CR.more ?_
  refine CW.seq ?_
  refine CW.region ?_
  refine SL.v (.bool true) ?_
  refine SL.nil ?_
  refine CW.seq ?_
  refine CW.cond_true (by kernel_rfl) ?_
  refine CW.skip ?_
  refine CW.seq ?_
  refine CW.block ?_
  refine CW.seq ?_
  refine CW.region ?_
  refine SL.v (.pointer (some ⟨g_4, 8, none⟩)) ?_
  refine SL.load (g := g_4) (off := 8) (v := .int .i64 c.clean.ml) rfl rfl rfl (by kernel_rfl) (hs_199.all 1 g_4 _ rfl) (by kernel_rfl) ?_
  refine SL.v (.int .i64 c.clean.ml) ?_
  refine SL.nil ?_
  refine CW.region ?_
  refine SL.v (.slice (some ⟨g_191, 0, none⟩) 8 cap_192) ?_
  refine SL.v (.int .i64 c.clean.ml) ?_
  refine SL.call (f := 50) (args := #[.int .i64 c.clean.ml]) (w1 := w_194) rfl rfl (by kernel_rfl) (itoa_d c.clean.ml w_194 (hn _ (by simp [Cor.nums])) (hT.gr hs_199.gr)) ?_
  rintro x w_210 ⟨rfl, hc_211⟩
  refine ⟨.string (dstr c.clean.ml), rfl, ?_⟩
  have hs_212 := hs_199.grow hc_211
  refine SL.new (mk := fun g => .slice (some ⟨g, 0, none⟩) 1 1) (C := #[.string (dstr c.clean.ml)]) (T := 9) hs_212 rfl rfl (by kernel_rfl) (fun g_213 w_214 hs_215 => ?_)
  have hs_215 : Bk w w_214 [(g_1, .cells (cvA c) 46 (0, 0)), (g_4, .cells #[.int .i64 c.clean.level, .int .i64 (flagZ c.clean.eight), .int .i64 (c.clean.modes / 4096), .int .i64 (c.clean.modes % 4096), .int .i64 (flagZ c.clean.stream), .int .i64 c.clean.status, .int .i64 (flagZ c.clean.below), .int .i64 c.clean.mt, .int .i64 c.clean.ml, .int .i64 c.clean.mb, .int .i64 c.clean.mr, .int .i64 (flagZ c.clean.origin)] 3 (0, 0)), (g_191, .cells ⟨[.string (dstr c.clean.level), .string (dstr (flagZ c.clean.eight)), .string (dstr (c.clean.modes / 4096)), .string (dstr (c.clean.modes % 4096)), .string (dstr (flagZ c.clean.stream)), .string (dstr c.clean.status), .string (dstr (flagZ c.clean.below)), .string (dstr c.clean.mt)] ++ pad_193⟩ 9 (0, 0)), (g_213, .cells #[.string (dstr c.clean.ml)] 9 (0, 0))] := hs_215
  refine SL.app (z := .string ⟨#[]⟩) (size := 1) (bytes := 16) (el := 9) (m := 1) (news := [.string (dstr c.clean.ml)]) (i := 2) (g := g_191) (k := 8) (cap := cap_192) (xs := [.string (dstr c.clean.level), .string (dstr (flagZ c.clean.eight)), .string (dstr (c.clean.modes / 4096)), .string (dstr (c.clean.modes % 4096)), .string (dstr (flagZ c.clean.stream)), .string (dstr c.clean.status), .string (dstr (flagZ c.clean.below)), .string (dstr c.clean.mt)]) (pad := pad_193) (xs' := [.string (dstr c.clean.level), .string (dstr (flagZ c.clean.eight)), .string (dstr (c.clean.modes / 4096)), .string (dstr (c.clean.modes % 4096)), .string (dstr (flagZ c.clean.stream)), .string (dstr c.clean.status), .string (dstr (flagZ c.clean.below)), .string (dstr c.clean.mt), .string (dstr c.clean.ml)]) (k' := 9) (L' := [(g_1, .cells (cvA c) 46 (0, 0)), (g_4, .cells #[.int .i64 c.clean.level, .int .i64 (flagZ c.clean.eight), .int .i64 (c.clean.modes / 4096), .int .i64 (c.clean.modes % 4096), .int .i64 (flagZ c.clean.stream), .int .i64 c.clean.status, .int .i64 (flagZ c.clean.below), .int .i64 c.clean.mt, .int .i64 c.clean.ml, .int .i64 c.clean.mb, .int .i64 c.clean.mr, .int .i64 (flagZ c.clean.origin)] 3 (0, 0)), (g_213, .cells #[.string (dstr c.clean.ml)] 9 (0, 0))]) hs_215 rfl rfl rfl (by kernel_rfl) (by kernel_rfl) (by kernel_rfl) (by kernel_rfl) (by kernel_rfl) rfl rfl rfl hl_196 hc_197 hm_198 rfl (src_at (cs := [.string (dstr c.clean.ml)]) (el := 9) (by kernel_rfl) (hs_215.all 3 g_213 _ rfl) rfl rfl (List.all_eq_true.1 (by kernel_rfl))) (by decide) rfl rfl rfl (fun g_216 cap_217 pad_218 w_219 hs_220 hl_221 hc_222 hm_223 => ?_)
  have hs_220 : Bk w w_219 [(g_1, .cells (cvA c) 46 (0, 0)), (g_4, .cells #[.int .i64 c.clean.level, .int .i64 (flagZ c.clean.eight), .int .i64 (c.clean.modes / 4096), .int .i64 (c.clean.modes % 4096), .int .i64 (flagZ c.clean.stream), .int .i64 c.clean.status, .int .i64 (flagZ c.clean.below), .int .i64 c.clean.mt, .int .i64 c.clean.ml, .int .i64 c.clean.mb, .int .i64 c.clean.mr, .int .i64 (flagZ c.clean.origin)] 3 (0, 0)), (g_213, .cells #[.string (dstr c.clean.ml)] 9 (0, 0)), (g_216, .cells ⟨[.string (dstr c.clean.level), .string (dstr (flagZ c.clean.eight)), .string (dstr (c.clean.modes / 4096)), .string (dstr (c.clean.modes % 4096)), .string (dstr (flagZ c.clean.stream)), .string (dstr c.clean.status), .string (dstr (flagZ c.clean.below)), .string (dstr c.clean.mt), .string (dstr c.clean.ml)] ++ pad_218⟩ 9 (0, 0))] := hs_220
  have hs_224 : Bk w w_219 [(g_1, .cells (cvA c) 46 (0, 0)), (g_4, .cells #[.int .i64 c.clean.level, .int .i64 (flagZ c.clean.eight), .int .i64 (c.clean.modes / 4096), .int .i64 (c.clean.modes % 4096), .int .i64 (flagZ c.clean.stream), .int .i64 c.clean.status, .int .i64 (flagZ c.clean.below), .int .i64 c.clean.mt, .int .i64 c.clean.ml, .int .i64 c.clean.mb, .int .i64 c.clean.mr, .int .i64 (flagZ c.clean.origin)] 3 (0, 0)), (g_216, .cells ⟨[.string (dstr c.clean.level), .string (dstr (flagZ c.clean.eight)), .string (dstr (c.clean.modes / 4096)), .string (dstr (c.clean.modes % 4096)), .string (dstr (flagZ c.clean.stream)), .string (dstr c.clean.status), .string (dstr (flagZ c.clean.below)), .string (dstr c.clean.mt), .string (dstr c.clean.ml)] ++ pad_218⟩ 9 (0, 0))] := hs_220.erase 2
  refine SL.v (.slice (some ⟨g_216, 0, none⟩) 9 cap_217) ?_
  refine SL.nil ?_
  refine CW.region ?_
  refine SL.v (.int .i64 9) ?_
  refine SL.v (.int .i64 9) ?_
  refine SL.nil ?_
  refine CR.fresh (fun e9 => e9 0 = .agg (cvA c) ∧ e9 1 = .pointer (some ⟨g_1, 0, none⟩) ∧ e9 2 = .string ⟨#[]⟩ ∧ e9 3 = .slice (some ⟨g_216, 0, none⟩) 9 cap_217 ∧ e9 6 = .agg (cvA c) ∧ e9 7 = .slice (some ⟨g_4, 0, none⟩) 12 12 ∧ e9 8 = .int .i64 12 ∧ e9 9 = .int .i64 9) ⟨(by kernel_rfl), (by kernel_rfl), (by kernel_rfl), (by kernel_rfl), (by kernel_rfl), (by kernel_rfl), (by kernel_rfl), (by kernel_rfl)⟩ ?_
  rintro e_225 ⟨hv_227, hv_228, hv_229, hv_230, hv_231, hv_232, hv_233, hv_234⟩
  obtain ⟨e_226, rfl⟩ : ∃ e_226, e_225 = put1 (put1 (put1 (put1 (put1 (put1 (put1 (put1 e_226 0 (.agg (cvA c))) 1 (.pointer (some ⟨g_1, 0, none⟩))) 2 (.string ⟨#[]⟩)) 3 (.slice (some ⟨g_216, 0, none⟩) 9 cap_217)) 6 (.agg (cvA c))) 7 (.slice (some ⟨g_4, 0, none⟩) 12 12)) 8 (.int .i64 12)) 9 (.int .i64 9) := ⟨e_225, (put_self hv_234).trans (congrArg (fun z => put1 z 9 (.int .i64 9)) ((put_self hv_233).trans (congrArg (fun z => put1 z 8 (.int .i64 12)) ((put_self hv_232).trans (congrArg (fun z => put1 z 7 (.slice (some ⟨g_4, 0, none⟩) 12 12)) ((put_self hv_231).trans (congrArg (fun z => put1 z 6 (.agg (cvA c))) ((put_self hv_230).trans (congrArg (fun z => put1 z 3 (.slice (some ⟨g_216, 0, none⟩) 9 cap_217)) ((put_self hv_229).trans (congrArg (fun z => put1 z 2 (.string ⟨#[]⟩)) ((put_self hv_228).trans (congrArg (fun z => put1 z 1 (.pointer (some ⟨g_1, 0, none⟩))) (put_self hv_227))))))))))))))⟩
  clear hv_227 hv_228 hv_229 hv_230 hv_231 hv_232 hv_233 hv_234
  refine CR.more ?_
  refine CW.seq ?_
  refine CW.region ?_
  refine SL.v (.bool true) ?_
  refine SL.nil ?_
  refine CW.seq ?_
  refine CW.cond_true (by kernel_rfl) ?_
  refine CW.skip ?_
  refine CW.seq ?_
  refine CW.block ?_
  refine CW.seq ?_
  refine CW.region ?_
  refine SL.v (.pointer (some ⟨g_4, 9, none⟩)) ?_
  refine SL.load (g := g_4) (off := 9) (v := .int .i64 c.clean.mb) rfl rfl rfl (by kernel_rfl) (hs_224.all 1 g_4 _ rfl) (by kernel_rfl) ?_
  refine SL.v (.int .i64 c.clean.mb) ?_
  refine SL.nil ?_
  refine CW.region ?_
  refine SL.v (.slice (some ⟨g_216, 0, none⟩) 9 cap_217) ?_
  refine SL.v (.int .i64 c.clean.mb) ?_
  refine SL.call (f := 50) (args := #[.int .i64 c.clean.mb]) (w1 := w_219) rfl rfl (by kernel_rfl) (itoa_d c.clean.mb w_219 (hn _ (by simp [Cor.nums])) (hT.gr hs_224.gr)) ?_
  rintro x w_235 ⟨rfl, hc_236⟩
  refine ⟨.string (dstr c.clean.mb), rfl, ?_⟩
  have hs_237 := hs_224.grow hc_236
  refine SL.new (mk := fun g => .slice (some ⟨g, 0, none⟩) 1 1) (C := #[.string (dstr c.clean.mb)]) (T := 9) hs_237 rfl rfl (by kernel_rfl) (fun g_238 w_239 hs_240 => ?_)
  have hs_240 : Bk w w_239 [(g_1, .cells (cvA c) 46 (0, 0)), (g_4, .cells #[.int .i64 c.clean.level, .int .i64 (flagZ c.clean.eight), .int .i64 (c.clean.modes / 4096), .int .i64 (c.clean.modes % 4096), .int .i64 (flagZ c.clean.stream), .int .i64 c.clean.status, .int .i64 (flagZ c.clean.below), .int .i64 c.clean.mt, .int .i64 c.clean.ml, .int .i64 c.clean.mb, .int .i64 c.clean.mr, .int .i64 (flagZ c.clean.origin)] 3 (0, 0)), (g_216, .cells ⟨[.string (dstr c.clean.level), .string (dstr (flagZ c.clean.eight)), .string (dstr (c.clean.modes / 4096)), .string (dstr (c.clean.modes % 4096)), .string (dstr (flagZ c.clean.stream)), .string (dstr c.clean.status), .string (dstr (flagZ c.clean.below)), .string (dstr c.clean.mt), .string (dstr c.clean.ml)] ++ pad_218⟩ 9 (0, 0)), (g_238, .cells #[.string (dstr c.clean.mb)] 9 (0, 0))] := hs_240
  refine SL.app (z := .string ⟨#[]⟩) (size := 1) (bytes := 16) (el := 9) (m := 1) (news := [.string (dstr c.clean.mb)]) (i := 2) (g := g_216) (k := 9) (cap := cap_217) (xs := [.string (dstr c.clean.level), .string (dstr (flagZ c.clean.eight)), .string (dstr (c.clean.modes / 4096)), .string (dstr (c.clean.modes % 4096)), .string (dstr (flagZ c.clean.stream)), .string (dstr c.clean.status), .string (dstr (flagZ c.clean.below)), .string (dstr c.clean.mt), .string (dstr c.clean.ml)]) (pad := pad_218) (xs' := [.string (dstr c.clean.level), .string (dstr (flagZ c.clean.eight)), .string (dstr (c.clean.modes / 4096)), .string (dstr (c.clean.modes % 4096)), .string (dstr (flagZ c.clean.stream)), .string (dstr c.clean.status), .string (dstr (flagZ c.clean.below)), .string (dstr c.clean.mt), .string (dstr c.clean.ml), .string (dstr c.clean.mb)]) (k' := 10) (L' := [(g_1, .cells (cvA c) 46 (0, 0)), (g_4, .cells #[.int .i64 c.clean.level, .int .i64 (flagZ c.clean.eight), .int .i64 (c.clean.modes / 4096), .int .i64 (c.clean.modes % 4096), .int .i64 (flagZ c.clean.stream), .int .i64 c.clean.status, .int .i64 (flagZ c.clean.below), .int .i64 c.clean.mt, .int .i64 c.clean.ml, .int .i64 c.clean.mb, .int .i64 c.clean.mr, .int .i64 (flagZ c.clean.origin)] 3 (0, 0)), (g_238, .cells #[.string (dstr c.clean.mb)] 9 (0, 0))]) hs_240 rfl rfl rfl (by kernel_rfl) (by kernel_rfl) (by kernel_rfl) (by kernel_rfl) (by kernel_rfl) rfl rfl rfl hl_221 hc_222 hm_223 rfl (src_at (cs := [.string (dstr c.clean.mb)]) (el := 9) (by kernel_rfl) (hs_240.all 3 g_238 _ rfl) rfl rfl (List.all_eq_true.1 (by kernel_rfl))) (by decide) rfl rfl rfl (fun g_241 cap_242 pad_243 w_244 hs_245 hl_246 hc_247 hm_248 => ?_)
  have hs_245 : Bk w w_244 [(g_1, .cells (cvA c) 46 (0, 0)), (g_4, .cells #[.int .i64 c.clean.level, .int .i64 (flagZ c.clean.eight), .int .i64 (c.clean.modes / 4096), .int .i64 (c.clean.modes % 4096), .int .i64 (flagZ c.clean.stream), .int .i64 c.clean.status, .int .i64 (flagZ c.clean.below), .int .i64 c.clean.mt, .int .i64 c.clean.ml, .int .i64 c.clean.mb, .int .i64 c.clean.mr, .int .i64 (flagZ c.clean.origin)] 3 (0, 0)), (g_238, .cells #[.string (dstr c.clean.mb)] 9 (0, 0)), (g_241, .cells ⟨[.string (dstr c.clean.level), .string (dstr (flagZ c.clean.eight)), .string (dstr (c.clean.modes / 4096)), .string (dstr (c.clean.modes % 4096)), .string (dstr (flagZ c.clean.stream)), .string (dstr c.clean.status), .string (dstr (flagZ c.clean.below)), .string (dstr c.clean.mt), .string (dstr c.clean.ml), .string (dstr c.clean.mb)] ++ pad_243⟩ 9 (0, 0))] := hs_245
  have hs_249 : Bk w w_244 [(g_1, .cells (cvA c) 46 (0, 0)), (g_4, .cells #[.int .i64 c.clean.level, .int .i64 (flagZ c.clean.eight), .int .i64 (c.clean.modes / 4096), .int .i64 (c.clean.modes % 4096), .int .i64 (flagZ c.clean.stream), .int .i64 c.clean.status, .int .i64 (flagZ c.clean.below), .int .i64 c.clean.mt, .int .i64 c.clean.ml, .int .i64 c.clean.mb, .int .i64 c.clean.mr, .int .i64 (flagZ c.clean.origin)] 3 (0, 0)), (g_241, .cells ⟨[.string (dstr c.clean.level), .string (dstr (flagZ c.clean.eight)), .string (dstr (c.clean.modes / 4096)), .string (dstr (c.clean.modes % 4096)), .string (dstr (flagZ c.clean.stream)), .string (dstr c.clean.status), .string (dstr (flagZ c.clean.below)), .string (dstr c.clean.mt), .string (dstr c.clean.ml), .string (dstr c.clean.mb)] ++ pad_243⟩ 9 (0, 0))] := hs_245.erase 2
  refine SL.v (.slice (some ⟨g_241, 0, none⟩) 10 cap_242) ?_
  refine SL.nil ?_
  refine CW.region ?_
  refine SL.v (.int .i64 10) ?_
  refine SL.v (.int .i64 10) ?_
  refine SL.nil ?_
  refine CR.fresh (fun e9 => e9 0 = .agg (cvA c) ∧ e9 1 = .pointer (some ⟨g_1, 0, none⟩) ∧ e9 2 = .string ⟨#[]⟩ ∧ e9 3 = .slice (some ⟨g_241, 0, none⟩) 10 cap_242 ∧ e9 6 = .agg (cvA c) ∧ e9 7 = .slice (some ⟨g_4, 0, none⟩) 12 12 ∧ e9 8 = .int .i64 12 ∧ e9 9 = .int .i64 10) ⟨(by kernel_rfl), (by kernel_rfl), (by kernel_rfl), (by kernel_rfl), (by kernel_rfl), (by kernel_rfl), (by kernel_rfl), (by kernel_rfl)⟩ ?_
  rintro e_250 ⟨hv_252, hv_253, hv_254, hv_255, hv_256, hv_257, hv_258, hv_259⟩
  obtain ⟨e_251, rfl⟩ : ∃ e_251, e_250 = put1 (put1 (put1 (put1 (put1 (put1 (put1 (put1 e_251 0 (.agg (cvA c))) 1 (.pointer (some ⟨g_1, 0, none⟩))) 2 (.string ⟨#[]⟩)) 3 (.slice (some ⟨g_241, 0, none⟩) 10 cap_242)) 6 (.agg (cvA c))) 7 (.slice (some ⟨g_4, 0, none⟩) 12 12)) 8 (.int .i64 12)) 9 (.int .i64 10) := ⟨e_250, (put_self hv_259).trans (congrArg (fun z => put1 z 9 (.int .i64 10)) ((put_self hv_258).trans (congrArg (fun z => put1 z 8 (.int .i64 12)) ((put_self hv_257).trans (congrArg (fun z => put1 z 7 (.slice (some ⟨g_4, 0, none⟩) 12 12)) ((put_self hv_256).trans (congrArg (fun z => put1 z 6 (.agg (cvA c))) ((put_self hv_255).trans (congrArg (fun z => put1 z 3 (.slice (some ⟨g_241, 0, none⟩) 10 cap_242)) ((put_self hv_254).trans (congrArg (fun z => put1 z 2 (.string ⟨#[]⟩)) ((put_self hv_253).trans (congrArg (fun z => put1 z 1 (.pointer (some ⟨g_1, 0, none⟩))) (put_self hv_252))))))))))))))⟩
  clear hv_252 hv_253 hv_254 hv_255 hv_256 hv_257 hv_258 hv_259
  refine CR.more ?_
  refine CW.seq ?_
  refine CW.region ?_
  refine SL.v (.bool true) ?_
  refine SL.nil ?_
  refine CW.seq ?_
  refine CW.cond_true (by kernel_rfl) ?_
  refine CW.skip ?_
  refine CW.seq ?_
  refine CW.block ?_
  refine CW.seq ?_
  refine CW.region ?_
  refine SL.v (.pointer (some ⟨g_4, 10, none⟩)) ?_
  refine SL.load (g := g_4) (off := 10) (v := .int .i64 c.clean.mr) rfl rfl rfl (by kernel_rfl) (hs_249.all 1 g_4 _ rfl) (by kernel_rfl) ?_
  refine SL.v (.int .i64 c.clean.mr) ?_
  refine SL.nil ?_
  refine CW.region ?_
  refine SL.v (.slice (some ⟨g_241, 0, none⟩) 10 cap_242) ?_
  refine SL.v (.int .i64 c.clean.mr) ?_
  refine SL.call (f := 50) (args := #[.int .i64 c.clean.mr]) (w1 := w_244) rfl rfl (by kernel_rfl) (itoa_d c.clean.mr w_244 (hn _ (by simp [Cor.nums])) (hT.gr hs_249.gr)) ?_
  rintro x w_260 ⟨rfl, hc_261⟩
  refine ⟨.string (dstr c.clean.mr), rfl, ?_⟩
  have hs_262 := hs_249.grow hc_261
  refine SL.new (mk := fun g => .slice (some ⟨g, 0, none⟩) 1 1) (C := #[.string (dstr c.clean.mr)]) (T := 9) hs_262 rfl rfl (by kernel_rfl) (fun g_263 w_264 hs_265 => ?_)
  have hs_265 : Bk w w_264 [(g_1, .cells (cvA c) 46 (0, 0)), (g_4, .cells #[.int .i64 c.clean.level, .int .i64 (flagZ c.clean.eight), .int .i64 (c.clean.modes / 4096), .int .i64 (c.clean.modes % 4096), .int .i64 (flagZ c.clean.stream), .int .i64 c.clean.status, .int .i64 (flagZ c.clean.below), .int .i64 c.clean.mt, .int .i64 c.clean.ml, .int .i64 c.clean.mb, .int .i64 c.clean.mr, .int .i64 (flagZ c.clean.origin)] 3 (0, 0)), (g_241, .cells ⟨[.string (dstr c.clean.level), .string (dstr (flagZ c.clean.eight)), .string (dstr (c.clean.modes / 4096)), .string (dstr (c.clean.modes % 4096)), .string (dstr (flagZ c.clean.stream)), .string (dstr c.clean.status), .string (dstr (flagZ c.clean.below)), .string (dstr c.clean.mt), .string (dstr c.clean.ml), .string (dstr c.clean.mb)] ++ pad_243⟩ 9 (0, 0)), (g_263, .cells #[.string (dstr c.clean.mr)] 9 (0, 0))] := hs_265
  refine SL.app (z := .string ⟨#[]⟩) (size := 1) (bytes := 16) (el := 9) (m := 1) (news := [.string (dstr c.clean.mr)]) (i := 2) (g := g_241) (k := 10) (cap := cap_242) (xs := [.string (dstr c.clean.level), .string (dstr (flagZ c.clean.eight)), .string (dstr (c.clean.modes / 4096)), .string (dstr (c.clean.modes % 4096)), .string (dstr (flagZ c.clean.stream)), .string (dstr c.clean.status), .string (dstr (flagZ c.clean.below)), .string (dstr c.clean.mt), .string (dstr c.clean.ml), .string (dstr c.clean.mb)]) (pad := pad_243) (xs' := [.string (dstr c.clean.level), .string (dstr (flagZ c.clean.eight)), .string (dstr (c.clean.modes / 4096)), .string (dstr (c.clean.modes % 4096)), .string (dstr (flagZ c.clean.stream)), .string (dstr c.clean.status), .string (dstr (flagZ c.clean.below)), .string (dstr c.clean.mt), .string (dstr c.clean.ml), .string (dstr c.clean.mb), .string (dstr c.clean.mr)]) (k' := 11) (L' := [(g_1, .cells (cvA c) 46 (0, 0)), (g_4, .cells #[.int .i64 c.clean.level, .int .i64 (flagZ c.clean.eight), .int .i64 (c.clean.modes / 4096), .int .i64 (c.clean.modes % 4096), .int .i64 (flagZ c.clean.stream), .int .i64 c.clean.status, .int .i64 (flagZ c.clean.below), .int .i64 c.clean.mt, .int .i64 c.clean.ml, .int .i64 c.clean.mb, .int .i64 c.clean.mr, .int .i64 (flagZ c.clean.origin)] 3 (0, 0)), (g_263, .cells #[.string (dstr c.clean.mr)] 9 (0, 0))]) hs_265 rfl rfl rfl (by kernel_rfl) (by kernel_rfl) (by kernel_rfl) (by kernel_rfl) (by kernel_rfl) rfl rfl rfl hl_246 hc_247 hm_248 rfl (src_at (cs := [.string (dstr c.clean.mr)]) (el := 9) (by kernel_rfl) (hs_265.all 3 g_263 _ rfl) rfl rfl (List.all_eq_true.1 (by kernel_rfl))) (by decide) rfl rfl rfl (fun g_266 cap_267 pad_268 w_269 hs_270 hl_271 hc_272 hm_273 => ?_)
  have hs_270 : Bk w w_269 [(g_1, .cells (cvA c) 46 (0, 0)), (g_4, .cells #[.int .i64 c.clean.level, .int .i64 (flagZ c.clean.eight), .int .i64 (c.clean.modes / 4096), .int .i64 (c.clean.modes % 4096), .int .i64 (flagZ c.clean.stream), .int .i64 c.clean.status, .int .i64 (flagZ c.clean.below), .int .i64 c.clean.mt, .int .i64 c.clean.ml, .int .i64 c.clean.mb, .int .i64 c.clean.mr, .int .i64 (flagZ c.clean.origin)] 3 (0, 0)), (g_263, .cells #[.string (dstr c.clean.mr)] 9 (0, 0)), (g_266, .cells ⟨[.string (dstr c.clean.level), .string (dstr (flagZ c.clean.eight)), .string (dstr (c.clean.modes / 4096)), .string (dstr (c.clean.modes % 4096)), .string (dstr (flagZ c.clean.stream)), .string (dstr c.clean.status), .string (dstr (flagZ c.clean.below)), .string (dstr c.clean.mt), .string (dstr c.clean.ml), .string (dstr c.clean.mb), .string (dstr c.clean.mr)] ++ pad_268⟩ 9 (0, 0))] := hs_270
  have hs_274 : Bk w w_269 [(g_1, .cells (cvA c) 46 (0, 0)), (g_4, .cells #[.int .i64 c.clean.level, .int .i64 (flagZ c.clean.eight), .int .i64 (c.clean.modes / 4096), .int .i64 (c.clean.modes % 4096), .int .i64 (flagZ c.clean.stream), .int .i64 c.clean.status, .int .i64 (flagZ c.clean.below), .int .i64 c.clean.mt, .int .i64 c.clean.ml, .int .i64 c.clean.mb, .int .i64 c.clean.mr, .int .i64 (flagZ c.clean.origin)] 3 (0, 0)), (g_266, .cells ⟨[.string (dstr c.clean.level), .string (dstr (flagZ c.clean.eight)), .string (dstr (c.clean.modes / 4096)), .string (dstr (c.clean.modes % 4096)), .string (dstr (flagZ c.clean.stream)), .string (dstr c.clean.status), .string (dstr (flagZ c.clean.below)), .string (dstr c.clean.mt), .string (dstr c.clean.ml), .string (dstr c.clean.mb), .string (dstr c.clean.mr)] ++ pad_268⟩ 9 (0, 0))] := hs_270.erase 2
  refine SL.v (.slice (some ⟨g_266, 0, none⟩) 11 cap_267) ?_
  refine SL.nil ?_
  refine CW.region ?_
  refine SL.v (.int .i64 11) ?_
  refine SL.v (.int .i64 11) ?_
  refine SL.nil ?_
  refine CR.fresh (fun e9 => e9 0 = .agg (cvA c) ∧ e9 1 = .pointer (some ⟨g_1, 0, none⟩) ∧ e9 2 = .string ⟨#[]⟩ ∧ e9 3 = .slice (some ⟨g_266, 0, none⟩) 11 cap_267 ∧ e9 6 = .agg (cvA c) ∧ e9 7 = .slice (some ⟨g_4, 0, none⟩) 12 12 ∧ e9 8 = .int .i64 12 ∧ e9 9 = .int .i64 11) ⟨(by kernel_rfl), (by kernel_rfl), (by kernel_rfl), (by kernel_rfl), (by kernel_rfl), (by kernel_rfl), (by kernel_rfl), (by kernel_rfl)⟩ ?_
  rintro e_275 ⟨hv_277, hv_278, hv_279, hv_280, hv_281, hv_282, hv_283, hv_284⟩
  obtain ⟨e_276, rfl⟩ : ∃ e_276, e_275 = put1 (put1 (put1 (put1 (put1 (put1 (put1 (put1 e_276 0 (.agg (cvA c))) 1 (.pointer (some ⟨g_1, 0, none⟩))) 2 (.string ⟨#[]⟩)) 3 (.slice (some ⟨g_266, 0, none⟩) 11 cap_267)) 6 (.agg (cvA c))) 7 (.slice (some ⟨g_4, 0, none⟩) 12 12)) 8 (.int .i64 12)) 9 (.int .i64 11) := ⟨e_275, (put_self hv_284).trans (congrArg (fun z => put1 z 9 (.int .i64 11)) ((put_self hv_283).trans (congrArg (fun z => put1 z 8 (.int .i64 12)) ((put_self hv_282).trans (congrArg (fun z => put1 z 7 (.slice (some ⟨g_4, 0, none⟩) 12 12)) ((put_self hv_281).trans (congrArg (fun z => put1 z 6 (.agg (cvA c))) ((put_self hv_280).trans (congrArg (fun z => put1 z 3 (.slice (some ⟨g_266, 0, none⟩) 11 cap_267)) ((put_self hv_279).trans (congrArg (fun z => put1 z 2 (.string ⟨#[]⟩)) ((put_self hv_278).trans (congrArg (fun z => put1 z 1 (.pointer (some ⟨g_1, 0, none⟩))) (put_self hv_277))))))))))))))⟩
  clear hv_277 hv_278 hv_279 hv_280 hv_281 hv_282 hv_283 hv_284
  refine CR.more ?_
  refine CW.seq ?_
  refine CW.region ?_
  refine SL.v (.bool true) ?_
  refine SL.nil ?_
  refine CW.seq ?_
  refine CW.cond_true (by kernel_rfl) ?_
  refine CW.skip ?_
  refine CW.seq ?_
  refine CW.block ?_
  refine CW.seq ?_
  refine CW.region ?_
  refine SL.v (.pointer (some ⟨g_4, 11, none⟩)) ?_
  refine SL.load (g := g_4) (off := 11) (v := .int .i64 (flagZ c.clean.origin)) rfl rfl rfl (by kernel_rfl) (hs_274.all 1 g_4 _ rfl) (by kernel_rfl) ?_
  refine SL.v (.int .i64 (flagZ c.clean.origin)) ?_
  refine SL.nil ?_
  refine CW.region ?_
  refine SL.v (.slice (some ⟨g_266, 0, none⟩) 11 cap_267) ?_
  refine SL.v (.int .i64 (flagZ c.clean.origin)) ?_
  refine SL.call (f := 50) (args := #[.int .i64 (flagZ c.clean.origin)]) (w1 := w_269) rfl rfl (by kernel_rfl) (itoa_d (flagZ c.clean.origin) w_269 (hn _ (by simp [Cor.nums])) (hT.gr hs_274.gr)) ?_
  rintro x w_285 ⟨rfl, hc_286⟩
  refine ⟨.string (dstr (flagZ c.clean.origin)), rfl, ?_⟩
  have hs_287 := hs_274.grow hc_286
  refine SL.new (mk := fun g => .slice (some ⟨g, 0, none⟩) 1 1) (C := #[.string (dstr (flagZ c.clean.origin))]) (T := 9) hs_287 rfl rfl (by kernel_rfl) (fun g_288 w_289 hs_290 => ?_)
  have hs_290 : Bk w w_289 [(g_1, .cells (cvA c) 46 (0, 0)), (g_4, .cells #[.int .i64 c.clean.level, .int .i64 (flagZ c.clean.eight), .int .i64 (c.clean.modes / 4096), .int .i64 (c.clean.modes % 4096), .int .i64 (flagZ c.clean.stream), .int .i64 c.clean.status, .int .i64 (flagZ c.clean.below), .int .i64 c.clean.mt, .int .i64 c.clean.ml, .int .i64 c.clean.mb, .int .i64 c.clean.mr, .int .i64 (flagZ c.clean.origin)] 3 (0, 0)), (g_266, .cells ⟨[.string (dstr c.clean.level), .string (dstr (flagZ c.clean.eight)), .string (dstr (c.clean.modes / 4096)), .string (dstr (c.clean.modes % 4096)), .string (dstr (flagZ c.clean.stream)), .string (dstr c.clean.status), .string (dstr (flagZ c.clean.below)), .string (dstr c.clean.mt), .string (dstr c.clean.ml), .string (dstr c.clean.mb), .string (dstr c.clean.mr)] ++ pad_268⟩ 9 (0, 0)), (g_288, .cells #[.string (dstr (flagZ c.clean.origin))] 9 (0, 0))] := hs_290
  refine SL.app (z := .string ⟨#[]⟩) (size := 1) (bytes := 16) (el := 9) (m := 1) (news := [.string (dstr (flagZ c.clean.origin))]) (i := 2) (g := g_266) (k := 11) (cap := cap_267) (xs := [.string (dstr c.clean.level), .string (dstr (flagZ c.clean.eight)), .string (dstr (c.clean.modes / 4096)), .string (dstr (c.clean.modes % 4096)), .string (dstr (flagZ c.clean.stream)), .string (dstr c.clean.status), .string (dstr (flagZ c.clean.below)), .string (dstr c.clean.mt), .string (dstr c.clean.ml), .string (dstr c.clean.mb), .string (dstr c.clean.mr)]) (pad := pad_268) (xs' := [.string (dstr c.clean.level), .string (dstr (flagZ c.clean.eight)), .string (dstr (c.clean.modes / 4096)), .string (dstr (c.clean.modes % 4096)), .string (dstr (flagZ c.clean.stream)), .string (dstr c.clean.status), .string (dstr (flagZ c.clean.below)), .string (dstr c.clean.mt), .string (dstr c.clean.ml), .string (dstr c.clean.mb), .string (dstr c.clean.mr), .string (dstr (flagZ c.clean.origin))]) (k' := 12) (L' := [(g_1, .cells (cvA c) 46 (0, 0)), (g_4, .cells #[.int .i64 c.clean.level, .int .i64 (flagZ c.clean.eight), .int .i64 (c.clean.modes / 4096), .int .i64 (c.clean.modes % 4096), .int .i64 (flagZ c.clean.stream), .int .i64 c.clean.status, .int .i64 (flagZ c.clean.below), .int .i64 c.clean.mt, .int .i64 c.clean.ml, .int .i64 c.clean.mb, .int .i64 c.clean.mr, .int .i64 (flagZ c.clean.origin)] 3 (0, 0)), (g_288, .cells #[.string (dstr (flagZ c.clean.origin))] 9 (0, 0))]) hs_290 rfl rfl rfl (by kernel_rfl) (by kernel_rfl) (by kernel_rfl) (by kernel_rfl) (by kernel_rfl) rfl rfl rfl hl_271 hc_272 hm_273 rfl (src_at (cs := [.string (dstr (flagZ c.clean.origin))]) (el := 9) (by kernel_rfl) (hs_290.all 3 g_288 _ rfl) rfl rfl (List.all_eq_true.1 (by kernel_rfl))) (by decide) rfl rfl rfl (fun g_291 cap_292 pad_293 w_294 hs_295 hl_296 hc_297 hm_298 => ?_)
  have hs_295 : Bk w w_294 [(g_1, .cells (cvA c) 46 (0, 0)), (g_4, .cells #[.int .i64 c.clean.level, .int .i64 (flagZ c.clean.eight), .int .i64 (c.clean.modes / 4096), .int .i64 (c.clean.modes % 4096), .int .i64 (flagZ c.clean.stream), .int .i64 c.clean.status, .int .i64 (flagZ c.clean.below), .int .i64 c.clean.mt, .int .i64 c.clean.ml, .int .i64 c.clean.mb, .int .i64 c.clean.mr, .int .i64 (flagZ c.clean.origin)] 3 (0, 0)), (g_288, .cells #[.string (dstr (flagZ c.clean.origin))] 9 (0, 0)), (g_291, .cells ⟨[.string (dstr c.clean.level), .string (dstr (flagZ c.clean.eight)), .string (dstr (c.clean.modes / 4096)), .string (dstr (c.clean.modes % 4096)), .string (dstr (flagZ c.clean.stream)), .string (dstr c.clean.status), .string (dstr (flagZ c.clean.below)), .string (dstr c.clean.mt), .string (dstr c.clean.ml), .string (dstr c.clean.mb), .string (dstr c.clean.mr), .string (dstr (flagZ c.clean.origin))] ++ pad_293⟩ 9 (0, 0))] := hs_295
  have hs_299 : Bk w w_294 [(g_1, .cells (cvA c) 46 (0, 0)), (g_4, .cells #[.int .i64 c.clean.level, .int .i64 (flagZ c.clean.eight), .int .i64 (c.clean.modes / 4096), .int .i64 (c.clean.modes % 4096), .int .i64 (flagZ c.clean.stream), .int .i64 c.clean.status, .int .i64 (flagZ c.clean.below), .int .i64 c.clean.mt, .int .i64 c.clean.ml, .int .i64 c.clean.mb, .int .i64 c.clean.mr, .int .i64 (flagZ c.clean.origin)] 3 (0, 0)), (g_291, .cells ⟨[.string (dstr c.clean.level), .string (dstr (flagZ c.clean.eight)), .string (dstr (c.clean.modes / 4096)), .string (dstr (c.clean.modes % 4096)), .string (dstr (flagZ c.clean.stream)), .string (dstr c.clean.status), .string (dstr (flagZ c.clean.below)), .string (dstr c.clean.mt), .string (dstr c.clean.ml), .string (dstr c.clean.mb), .string (dstr c.clean.mr), .string (dstr (flagZ c.clean.origin))] ++ pad_293⟩ 9 (0, 0))] := hs_295.erase 2
  refine SL.v (.slice (some ⟨g_291, 0, none⟩) 12 cap_292) ?_
  refine SL.nil ?_
  refine CW.region ?_
  refine SL.v (.int .i64 12) ?_
  refine SL.v (.int .i64 12) ?_
  refine SL.nil ?_
  refine CR.fresh (fun e9 => e9 0 = .agg (cvA c) ∧ e9 1 = .pointer (some ⟨g_1, 0, none⟩) ∧ e9 2 = .string ⟨#[]⟩ ∧ e9 3 = .slice (some ⟨g_291, 0, none⟩) 12 cap_292 ∧ e9 6 = .agg (cvA c) ∧ e9 7 = .slice (some ⟨g_4, 0, none⟩) 12 12 ∧ e9 8 = .int .i64 12 ∧ e9 9 = .int .i64 12) ⟨(by kernel_rfl), (by kernel_rfl), (by kernel_rfl), (by kernel_rfl), (by kernel_rfl), (by kernel_rfl), (by kernel_rfl), (by kernel_rfl)⟩ ?_
  rintro e_300 ⟨hv_302, hv_303, hv_304, hv_305, hv_306, hv_307, hv_308, hv_309⟩
  obtain ⟨e_301, rfl⟩ : ∃ e_301, e_300 = put1 (put1 (put1 (put1 (put1 (put1 (put1 (put1 e_301 0 (.agg (cvA c))) 1 (.pointer (some ⟨g_1, 0, none⟩))) 2 (.string ⟨#[]⟩)) 3 (.slice (some ⟨g_291, 0, none⟩) 12 cap_292)) 6 (.agg (cvA c))) 7 (.slice (some ⟨g_4, 0, none⟩) 12 12)) 8 (.int .i64 12)) 9 (.int .i64 12) := ⟨e_300, (put_self hv_309).trans (congrArg (fun z => put1 z 9 (.int .i64 12)) ((put_self hv_308).trans (congrArg (fun z => put1 z 8 (.int .i64 12)) ((put_self hv_307).trans (congrArg (fun z => put1 z 7 (.slice (some ⟨g_4, 0, none⟩) 12 12)) ((put_self hv_306).trans (congrArg (fun z => put1 z 6 (.agg (cvA c))) ((put_self hv_305).trans (congrArg (fun z => put1 z 3 (.slice (some ⟨g_291, 0, none⟩) 12 cap_292)) ((put_self hv_304).trans (congrArg (fun z => put1 z 2 (.string ⟨#[]⟩)) ((put_self hv_303).trans (congrArg (fun z => put1 z 1 (.pointer (some ⟨g_1, 0, none⟩))) (put_self hv_302))))))))))))))⟩
  clear hv_302 hv_303 hv_304 hv_305 hv_306 hv_307 hv_308 hv_309
  refine CR.more ?_
  refine CW.seq ?_
  refine CW.region ?_
  refine SL.v (.bool false) ?_
  refine SL.nil ?_
  refine CW.seq ?_
  refine CW.cond_false (by kernel_rfl) ?_
  refine CW.exit ?_
  repeat with_reducible first | refine PThen.exit ?_ | refine PBlock.out rfl ?_
  with_reducible refine PBlock.here ?_
  repeat with_reducible refine PBlock.normal ?_
  refine CW.seq ?_
  refine CW.region ?_
  refine SL.v (.slice (some ⟨g_291, 0, none⟩) 12 cap_292) ?_
  refine SL.call (f := 51) (args := #[.slice (some ⟨g_291, 0, none⟩) 12 cap_292, .string ⟨#[59]⟩]) (w1 := w_294) rfl rfl (by kernel_rfl) (join_d (g := g_291) (cap := cap_292) [c.clean.level, flagZ c.clean.eight, c.clean.modes / 4096, c.clean.modes % 4096, flagZ c.clean.stream, c.clean.status, flagZ c.clean.below, c.clean.mt, c.clean.ml, c.clean.mb, c.clean.mr, flagZ c.clean.origin] (hs_299.all 2 g_291 _ rfl) hc_297 (Nat.le_of_ble_eq_true (by kernel_rfl))) ?_
  rintro x w_310 ⟨rfl, hc_311⟩
  refine ⟨.string (strOf (fmtGo [c.clean.level, flagZ c.clean.eight, c.clean.modes / 4096, c.clean.modes % 4096, flagZ c.clean.stream, c.clean.status, flagZ c.clean.below, c.clean.mt, c.clean.ml, c.clean.mb, c.clean.mr, flagZ c.clean.origin])), rfl, ?_⟩
  have hs_312 := hs_299.grow hc_311
  refine SL.v (.string (strOf (fmtGo [c.clean.level, flagZ c.clean.eight, c.clean.modes / 4096, c.clean.modes % 4096, flagZ c.clean.stream, c.clean.status, flagZ c.clean.below, c.clean.mt, c.clean.ml, c.clean.mb, c.clean.mr, flagZ c.clean.origin]))) ?_
  refine SL.nil ?_
  refine CW.ret ?_
  repeat with_reducible first | refine PThen.ret ?_ | refine PBlock.ret ?_
  refine PRet.tmp (t := 2) (v := .string (strOf (fmtGo [c.clean.level, flagZ c.clean.eight, c.clean.modes / 4096, c.clean.modes % 4096, flagZ c.clean.stream, c.clean.status, flagZ c.clean.below, c.clean.mt, c.clean.ml, c.clean.mb, c.clean.mr, flagZ c.clean.origin]))) rfl rfl (by kernel_rfl) ?_
  exact ⟨rfl, hs_312.gr⟩
end Go.Proofs.YtfkecgkfcldffaaDoor
