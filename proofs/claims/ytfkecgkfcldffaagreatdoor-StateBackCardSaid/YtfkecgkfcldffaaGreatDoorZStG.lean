/-
 The report of a state, both texts, walked (gen_stg.py).
-/
import Derived.Test.YtfkecgkfcldffaaGreatDoorZSr
import Derived.Test.YtfkecgkfcldffaaGreatDoorZStF
namespace Go.Proofs.YtfkecgkfcldffaaGreatDoor
set_option linter.unusedSimpArgs false
set_option linter.unusedVariables false
open Go.RowKit
set_option linter.unusedVariables false

theorem itoa_d (n : Int) (w : World) (h : 0 ≤ n ∧ n ≤ 65535) (hT : tabT w) : Calls Tryz.prog 49 #[iv n] w fun e w' => e = .returned (.string (dstr n)) ∧ Gr w w' := by
 have := itoa_walk n h.1 h.2 hT
 unfold dstr; rw [clipR_id h.1 h.2]; exact this
theorem join_d {w : World} {g cap : Nat} {pad : List Value} {T : TypeId} (l : List Int) (hb : w.heap[g]? = some (.cells ⟨(l.map dstr).map Value.string ++ pad⟩ T (0, 0))) (hcap : l.length ≤ cap) (hl : l.length ≤ 1000) :
  Calls Tryz.prog 22 #[sv g 0 l.length cap, .string ⟨#[59]⟩] w fun e w' => e = .returned (.string (strOf (fmtGo l))) ∧ Gr w w' := by
 have hj := Tryz.strings_Join g 0 cap (l.map dstr) ⟨#[59]⟩ w (fun j x hx => by
  have hlt : j < (l.map dstr).length := (List.getElem?_eq_some_iff.1 hx).1
  have := cell_of_row hb j (.string x) (by
   rw [List.getElem?_toArray, List.getElem?_append_left (by simpa using hlt), List.getElem?_map, hx]; rfl)
  simpa using this) (Array.getElem?_eq_some_iff.1 hb).1 (by simp; omega) (by simpa using hcap) (by have := fmt_len l; simp only [ByteArray.data] at *; omega)
 rw [List.length_map] at hj
 rw [join_fmt]
 exact hj
theorem nums_in {c : Cor} (h : c.clean.Ok) (hb : c.clean.mt ≤ 65535 ∧ c.clean.ml ≤ 65535 ∧ c.clean.mb ≤ 65535 ∧ c.clean.mr ≤ 65535) (h0 : 0 ≤ c.clean.mt ∧ 0 ≤ c.clean.ml ∧ 0 ≤ c.clean.mb ∧ 0 ≤ c.clean.mr) : ∀ n ∈ c.clean.nums, 0 ≤ n ∧ n ≤ 65535 := by
 have h5 := clipz_in c.level 1 5 (by decide)
 have h2 := clipz_in c.status 0 2 (by decide)
 have hl : c.clean.level = clipZ c.level 1 5 := rfl
 have hs : c.clean.status = clipZ c.status 0 2 := rfl
 have hm : c.clean.modes = c.modes % 131072 := rfl
 have fz : ∀ b, 0 ≤ flagZ b ∧ flagZ b ≤ 65535 := by intro b; cases b <;> decide
 simp only [Cor.nums, List.forall_mem_cons, List.not_mem_nil, false_implies, implies_true, and_true]
 refine ⟨by omega, fz _, by omega, by omega, fz _, by omega, fz _, by omega, by omega, by omega, by omega, fz _⟩
abbrev qStG_0 (c : Cor) : Array Value := #[iv c.clean.level, iv (flagZ c.clean.eight), iv (c.clean.modes / 4096), iv (c.clean.modes % 4096), iv (flagZ c.clean.stream), iv c.clean.status, iv (flagZ c.clean.below), iv c.clean.mt, iv c.clean.ml, iv c.clean.mb, iv c.clean.mr, iv (flagZ c.clean.origin)]
set_option maxRecDepth 100000 in
set_option maxHeartbeats 4000000 in
theorem rep_any (c : Cor) (w : World) (hok : c.Ok) (hT : tabT w) (hn : ∀ n ∈ c.clean.nums, 0 ≤ n ∧ n ≤ 65535) : Calls Tryz.prog 15 #[.agg (cvA c)] w fun e w' => e = .returned (.string (strOf (fmtGo c.clean.nums))) ∧ Gr w w' := by
 refine calls_sx (n := 21) (args := [.agg (cvA c)]) Tryz.func15 rfl rfl rfl ?_
 have hs0 := Bk.init w
 refine CW.seq ?_
 refine CW.region ?_
 refine SL.new (mk := fun g => pv g 0) (C := (cvA c)) (T := 45) hs0 rfl rfl (by kernel_rfl) (fun g_1 w_2 hs_3 => ?_)
 have hs_3 : Bk w w_2 [(g_1, .cells (cvA c) 45 (0, 0))] := hs_3
 refine SL.v (.string ⟨#[]⟩) ?_
 refine SL.nil ?_
 refine CW.seq ?_
 refine CW.region ?_
 refine SL.v (.slice none 0 0) ?_
 refine SL.nil ?_
 refine CW.seq ?_
 refine CW.seq ?_
 refine CW.region ?_
 refine SL.load (g := g_1) (off := 0) (v := .agg (cvA c)) rfl rfl rfl (by kernel_rfl) (hs_3.all 0 g_1 _ rfl) (by kernel_rfl) ?_
 refine SL.call (f := 47) (args := #[.agg (cvA c)]) (w1 := w_2) rfl rfl (by kernel_rfl) (nums_any c w_2 hok) ?_
 rintro x w_5 ⟨g_4, rfl, hb_8, hge_9, hc_6⟩
 refine ⟨_, rfl, ?_⟩
 have hs_7 := (hs_3.grow hc_6).add hb_8 (Nat.le_trans hs_3.gr.size hge_9) (hs_3.new_ne hge_9)
 have hs_7 : Bk w w_5 [(g_1, .cells (cvA c) 45 (0, 0)), (g_4, .cells (qStG_0 c) 3 (0, 0))] := hs_7
 refine SL.val (v := iv 12) (w' := w_5) rfl rfl (by kernel_rfl) ?_
 refine SL.v (iv 0) ?_
 refine SL.nil ?_
 refine CW.block ?_
 refine CW.loopN 13 ?_
 refine CR.more ?_
 refine CW.seq ?_
 refine CW.region ?_
 refine SL.v (.bool true) ?_
 refine SL.nil ?_
 refine CW.seq ?_
 refine CW.cond_true (by kernel_rfl) ?_
 refine CW.skip ?_
 refine CW.seq ?_
 refine CW.block ?_
 refine CW.seq ?_
 refine CW.region ?_
 refine SL.v (pv g_4 0) ?_
 refine SL.load (g := g_4) (off := 0) (v := iv c.clean.level) rfl rfl rfl (by kernel_rfl) (hs_7.all 1 g_4 _ rfl) (by kernel_rfl) ?_
 refine SL.v (iv c.clean.level) ?_
 refine SL.nil ?_
 refine CW.region ?_
 refine SL.v (.slice none 0 0) ?_
 refine SL.v (iv c.clean.level) ?_
 refine SL.call (f := 49) (args := #[iv c.clean.level]) (w1 := w_5) rfl rfl (by kernel_rfl) (itoa_d c.clean.level w_5 (hn _ (by simp [Cor.nums])) (hT.gr hs_7.gr)) ?_
 rintro x w_10 ⟨rfl, hc_11⟩
 refine ⟨_, rfl, ?_⟩
 have hs_12 := hs_7.grow hc_11
 refine SL.new (mk := fun g => sv g 0 1 1) (C := #[.string (dstr c.clean.level)]) (T := 9) hs_12 rfl rfl (by kernel_rfl) (fun g_13 w_14 hs_15 => ?_)
 have hs_15 : Bk w w_14 [(g_1, .cells (cvA c) 45 (0, 0)), (g_4, .cells (qStG_0 c) 3 (0, 0)), (g_13, .cells #[.string (dstr c.clean.level)] 9 (0, 0))] := hs_15
 refine SL.app0 (z := .string ⟨#[]⟩) (size := 1) (bytes := 16) (el := 9) (m := 1) (news := [.string (dstr c.clean.level)]) hs_15 rfl rfl rfl (by kernel_rfl) (by kernel_rfl) (by kernel_rfl) (by kernel_rfl) (by kernel_rfl) rfl rfl (src_at (cs := [.string (dstr c.clean.level)]) (el := 9) (by kernel_rfl) (hs_15.all 2 g_13 _ rfl) rfl rfl (List.all_eq_true.1 (by kernel_rfl))) (by decide) (by decide) (fun g_16 cap_17 pad_18 w_19 hs_20 hl_21 hc_22 hm_23 => ?_)
 have hs_20 : Bk w w_19 [(g_1, .cells (cvA c) 45 (0, 0)), (g_4, .cells (qStG_0 c) 3 (0, 0)), (g_13, .cells #[.string (dstr c.clean.level)] 9 (0, 0)), (g_16, .cells ⟨[.string (dstr c.clean.level)] ++ pad_18⟩ 9 (0, 0))] := hs_20
 have hs_24 : Bk w w_19 [(g_1, .cells (cvA c) 45 (0, 0)), (g_4, .cells (qStG_0 c) 3 (0, 0)), (g_16, .cells ⟨[.string (dstr c.clean.level)] ++ pad_18⟩ 9 (0, 0))] := hs_20.erase 2
 refine SL.v (sv g_16 0 1 cap_17) ?_
 refine SL.nil ?_
 refine CW.region ?_
 refine SL.v (iv 1) ?_
 refine SL.v (iv 1) ?_
 refine SL.nil ?_
 have hs_25 : Bk w w_19 [(g_4, .cells (qStG_0 c) 3 (0, 0)), (g_16, .cells ⟨[.string (dstr c.clean.level)] ++ pad_18⟩ 9 (0, 0))] := hs_24.erase 0
 refine CR.fresh (fun e9 => e9 2 = .string ⟨#[]⟩ ∧ e9 3 = sv g_16 0 1 cap_17 ∧ e9 7 = sv g_4 0 12 12 ∧ e9 8 = iv 12 ∧ e9 9 = iv 1) ⟨(by kernel_rfl), (by kernel_rfl), (by kernel_rfl), (by kernel_rfl), (by kernel_rfl)⟩ ?_
 rintro e_26 ⟨hv_28, hv_29, hv_30, hv_31, hv_32⟩
 obtain ⟨e_27, rfl⟩ : ∃ e_27, e_26 = put1 (put1 (put1 (put1 (put1 e_27 2 (.string ⟨#[]⟩)) 3 (sv g_16 0 1 cap_17)) 7 (sv g_4 0 12 12)) 8 (iv 12)) 9 (iv 1) := ⟨e_26, (put_self hv_32).trans (congrArg (fun z => put1 z 9 (iv 1)) ((put_self hv_31).trans (congrArg (fun z => put1 z 8 (iv 12)) ((put_self hv_30).trans (congrArg (fun z => put1 z 7 (sv g_4 0 12 12)) ((put_self hv_29).trans (congrArg (fun z => put1 z 3 (sv g_16 0 1 cap_17)) (put_self hv_28))))))))⟩
 clear hv_28 hv_29 hv_30 hv_31 hv_32
 refine CR.more ?_
 refine CW.seq ?_
 refine CW.region ?_
 refine SL.v (.bool true) ?_
 refine SL.nil ?_
 refine CW.seq ?_
 refine CW.cond_true (by kernel_rfl) ?_
 refine CW.skip ?_
 refine CW.seq ?_
 refine CW.block ?_
 refine CW.seq ?_
 refine CW.region ?_
 refine SL.v (pv g_4 1) ?_
 refine SL.load (g := g_4) (off := 1) (v := iv (flagZ c.clean.eight)) rfl rfl rfl (by kernel_rfl) (hs_25.all 0 g_4 _ rfl) (by kernel_rfl) ?_
 refine SL.v (iv (flagZ c.clean.eight)) ?_
 refine SL.nil ?_
 refine CW.region ?_
 refine SL.v (sv g_16 0 1 cap_17) ?_
 refine SL.v (iv (flagZ c.clean.eight)) ?_
 refine SL.call (f := 49) (args := #[iv (flagZ c.clean.eight)]) (w1 := w_19) rfl rfl (by kernel_rfl) (itoa_d (flagZ c.clean.eight) w_19 (hn _ (by simp [Cor.nums])) (hT.gr hs_25.gr)) ?_
 rintro x w_33 ⟨rfl, hc_34⟩
 refine ⟨_, rfl, ?_⟩
 have hs_35 := hs_25.grow hc_34
 refine SL.new (mk := fun g => sv g 0 1 1) (C := #[.string (dstr (flagZ c.clean.eight))]) (T := 9) hs_35 rfl rfl (by kernel_rfl) (fun g_36 w_37 hs_38 => ?_)
 have hs_38 : Bk w w_37 [(g_4, .cells (qStG_0 c) 3 (0, 0)), (g_16, .cells ⟨[.string (dstr c.clean.level)] ++ pad_18⟩ 9 (0, 0)), (g_36, .cells #[.string (dstr (flagZ c.clean.eight))] 9 (0, 0))] := hs_38
 refine SL.app (z := .string ⟨#[]⟩) (size := 1) (bytes := 16) (el := 9) (m := 1) (news := [.string (dstr (flagZ c.clean.eight))]) (i := 1) (g := g_16) (k := 1) (cap := cap_17) (xs := [.string (dstr c.clean.level)]) (pad := pad_18) (xs' := [.string (dstr c.clean.level), .string (dstr (flagZ c.clean.eight))]) (k' := 2) (L' := [(g_4, .cells (qStG_0 c) 3 (0, 0)), (g_36, .cells #[.string (dstr (flagZ c.clean.eight))] 9 (0, 0))]) hs_38 rfl rfl rfl (by kernel_rfl) (by kernel_rfl) (by kernel_rfl) (by kernel_rfl) (by kernel_rfl) rfl rfl rfl hl_21 hc_22 hm_23 rfl (src_at (cs := [.string (dstr (flagZ c.clean.eight))]) (el := 9) (by kernel_rfl) (hs_38.all 2 g_36 _ rfl) rfl rfl (List.all_eq_true.1 (by kernel_rfl))) (by decide) rfl rfl rfl (fun g_39 cap_40 pad_41 w_42 hs_43 hl_44 hc_45 hm_46 => ?_)
 have hs_43 : Bk w w_42 [(g_4, .cells (qStG_0 c) 3 (0, 0)), (g_36, .cells #[.string (dstr (flagZ c.clean.eight))] 9 (0, 0)), (g_39, .cells ⟨[.string (dstr c.clean.level), .string (dstr (flagZ c.clean.eight))] ++ pad_41⟩ 9 (0, 0))] := hs_43
 have hs_47 : Bk w w_42 [(g_4, .cells (qStG_0 c) 3 (0, 0)), (g_39, .cells ⟨[.string (dstr c.clean.level), .string (dstr (flagZ c.clean.eight))] ++ pad_41⟩ 9 (0, 0))] := hs_43.erase 1
 refine SL.v (sv g_39 0 2 cap_40) ?_
 refine SL.nil ?_
 refine CW.region ?_
 refine SL.v (iv 2) ?_
 refine SL.v (iv 2) ?_
 refine SL.nil ?_
 refine CR.fresh (fun e9 => e9 2 = .string ⟨#[]⟩ ∧ e9 3 = sv g_39 0 2 cap_40 ∧ e9 7 = sv g_4 0 12 12 ∧ e9 8 = iv 12 ∧ e9 9 = iv 2) ⟨(by kernel_rfl), (by kernel_rfl), (by kernel_rfl), (by kernel_rfl), (by kernel_rfl)⟩ ?_
 rintro e_48 ⟨hv_50, hv_51, hv_52, hv_53, hv_54⟩
 obtain ⟨e_49, rfl⟩ : ∃ e_49, e_48 = put1 (put1 (put1 (put1 (put1 e_49 2 (.string ⟨#[]⟩)) 3 (sv g_39 0 2 cap_40)) 7 (sv g_4 0 12 12)) 8 (iv 12)) 9 (iv 2) := ⟨e_48, (put_self hv_54).trans (congrArg (fun z => put1 z 9 (iv 2)) ((put_self hv_53).trans (congrArg (fun z => put1 z 8 (iv 12)) ((put_self hv_52).trans (congrArg (fun z => put1 z 7 (sv g_4 0 12 12)) ((put_self hv_51).trans (congrArg (fun z => put1 z 3 (sv g_39 0 2 cap_40)) (put_self hv_50))))))))⟩
 clear hv_50 hv_51 hv_52 hv_53 hv_54
 refine CR.more ?_
 refine CW.seq ?_
 refine CW.region ?_
 refine SL.v (.bool true) ?_
 refine SL.nil ?_
 refine CW.seq ?_
 refine CW.cond_true (by kernel_rfl) ?_
 refine CW.skip ?_
 refine CW.seq ?_
 refine CW.block ?_
 refine CW.seq ?_
 refine CW.region ?_
 refine SL.v (pv g_4 2) ?_
 refine SL.load (g := g_4) (off := 2) (v := iv (c.clean.modes / 4096)) rfl rfl rfl (by kernel_rfl) (hs_47.all 0 g_4 _ rfl) (by kernel_rfl) ?_
 refine SL.v (iv (c.clean.modes / 4096)) ?_
 refine SL.nil ?_
 refine CW.region ?_
 refine SL.v (sv g_39 0 2 cap_40) ?_
 refine SL.v (iv (c.clean.modes / 4096)) ?_
 refine SL.call (f := 49) (args := #[iv (c.clean.modes / 4096)]) (w1 := w_42) rfl rfl (by kernel_rfl) (itoa_d (c.clean.modes / 4096) w_42 (hn _ (by simp [Cor.nums])) (hT.gr hs_47.gr)) ?_
 rintro x w_55 ⟨rfl, hc_56⟩
 refine ⟨_, rfl, ?_⟩
 have hs_57 := hs_47.grow hc_56
 refine SL.new (mk := fun g => sv g 0 1 1) (C := #[.string (dstr (c.clean.modes / 4096))]) (T := 9) hs_57 rfl rfl (by kernel_rfl) (fun g_58 w_59 hs_60 => ?_)
 have hs_60 : Bk w w_59 [(g_4, .cells (qStG_0 c) 3 (0, 0)), (g_39, .cells ⟨[.string (dstr c.clean.level), .string (dstr (flagZ c.clean.eight))] ++ pad_41⟩ 9 (0, 0)), (g_58, .cells #[.string (dstr (c.clean.modes / 4096))] 9 (0, 0))] := hs_60
 refine SL.app (z := .string ⟨#[]⟩) (size := 1) (bytes := 16) (el := 9) (m := 1) (news := [.string (dstr (c.clean.modes / 4096))]) (i := 1) (g := g_39) (k := 2) (cap := cap_40) (xs := [.string (dstr c.clean.level), .string (dstr (flagZ c.clean.eight))]) (pad := pad_41) (xs' := [.string (dstr c.clean.level), .string (dstr (flagZ c.clean.eight)), .string (dstr (c.clean.modes / 4096))]) (k' := 3) (L' := [(g_4, .cells (qStG_0 c) 3 (0, 0)), (g_58, .cells #[.string (dstr (c.clean.modes / 4096))] 9 (0, 0))]) hs_60 rfl rfl rfl (by kernel_rfl) (by kernel_rfl) (by kernel_rfl) (by kernel_rfl) (by kernel_rfl) rfl rfl rfl hl_44 hc_45 hm_46 rfl (src_at (cs := [.string (dstr (c.clean.modes / 4096))]) (el := 9) (by kernel_rfl) (hs_60.all 2 g_58 _ rfl) rfl rfl (List.all_eq_true.1 (by kernel_rfl))) (by decide) rfl rfl rfl (fun g_61 cap_62 pad_63 w_64 hs_65 hl_66 hc_67 hm_68 => ?_)
 have hs_65 : Bk w w_64 [(g_4, .cells (qStG_0 c) 3 (0, 0)), (g_58, .cells #[.string (dstr (c.clean.modes / 4096))] 9 (0, 0)), (g_61, .cells ⟨[.string (dstr c.clean.level), .string (dstr (flagZ c.clean.eight)), .string (dstr (c.clean.modes / 4096))] ++ pad_63⟩ 9 (0, 0))] := hs_65
 have hs_69 : Bk w w_64 [(g_4, .cells (qStG_0 c) 3 (0, 0)), (g_61, .cells ⟨[.string (dstr c.clean.level), .string (dstr (flagZ c.clean.eight)), .string (dstr (c.clean.modes / 4096))] ++ pad_63⟩ 9 (0, 0))] := hs_65.erase 1
 refine SL.v (sv g_61 0 3 cap_62) ?_
 refine SL.nil ?_
 refine CW.region ?_
 refine SL.v (iv 3) ?_
 refine SL.v (iv 3) ?_
 refine SL.nil ?_
 refine CR.fresh (fun e9 => e9 2 = .string ⟨#[]⟩ ∧ e9 3 = sv g_61 0 3 cap_62 ∧ e9 7 = sv g_4 0 12 12 ∧ e9 8 = iv 12 ∧ e9 9 = iv 3) ⟨(by kernel_rfl), (by kernel_rfl), (by kernel_rfl), (by kernel_rfl), (by kernel_rfl)⟩ ?_
 rintro e_70 ⟨hv_72, hv_73, hv_74, hv_75, hv_76⟩
 obtain ⟨e_71, rfl⟩ : ∃ e_71, e_70 = put1 (put1 (put1 (put1 (put1 e_71 2 (.string ⟨#[]⟩)) 3 (sv g_61 0 3 cap_62)) 7 (sv g_4 0 12 12)) 8 (iv 12)) 9 (iv 3) := ⟨e_70, (put_self hv_76).trans (congrArg (fun z => put1 z 9 (iv 3)) ((put_self hv_75).trans (congrArg (fun z => put1 z 8 (iv 12)) ((put_self hv_74).trans (congrArg (fun z => put1 z 7 (sv g_4 0 12 12)) ((put_self hv_73).trans (congrArg (fun z => put1 z 3 (sv g_61 0 3 cap_62)) (put_self hv_72))))))))⟩
 clear hv_72 hv_73 hv_74 hv_75 hv_76
 refine CR.more ?_
 refine CW.seq ?_
 refine CW.region ?_
 refine SL.v (.bool true) ?_
 refine SL.nil ?_
 refine CW.seq ?_
 refine CW.cond_true (by kernel_rfl) ?_
 refine CW.skip ?_
 refine CW.seq ?_
 refine CW.block ?_
 refine CW.seq ?_
 refine CW.region ?_
 refine SL.v (pv g_4 3) ?_
 refine SL.load (g := g_4) (off := 3) (v := iv (c.clean.modes % 4096)) rfl rfl rfl (by kernel_rfl) (hs_69.all 0 g_4 _ rfl) (by kernel_rfl) ?_
 refine SL.v (iv (c.clean.modes % 4096)) ?_
 refine SL.nil ?_
 refine CW.region ?_
 refine SL.v (sv g_61 0 3 cap_62) ?_
 refine SL.v (iv (c.clean.modes % 4096)) ?_
 refine SL.call (f := 49) (args := #[iv (c.clean.modes % 4096)]) (w1 := w_64) rfl rfl (by kernel_rfl) (itoa_d (c.clean.modes % 4096) w_64 (hn _ (by simp [Cor.nums])) (hT.gr hs_69.gr)) ?_
 rintro x w_77 ⟨rfl, hc_78⟩
 refine ⟨_, rfl, ?_⟩
 have hs_79 := hs_69.grow hc_78
 refine SL.new (mk := fun g => sv g 0 1 1) (C := #[.string (dstr (c.clean.modes % 4096))]) (T := 9) hs_79 rfl rfl (by kernel_rfl) (fun g_80 w_81 hs_82 => ?_)
 have hs_82 : Bk w w_81 [(g_4, .cells (qStG_0 c) 3 (0, 0)), (g_61, .cells ⟨[.string (dstr c.clean.level), .string (dstr (flagZ c.clean.eight)), .string (dstr (c.clean.modes / 4096))] ++ pad_63⟩ 9 (0, 0)), (g_80, .cells #[.string (dstr (c.clean.modes % 4096))] 9 (0, 0))] := hs_82
 refine SL.app (z := .string ⟨#[]⟩) (size := 1) (bytes := 16) (el := 9) (m := 1) (news := [.string (dstr (c.clean.modes % 4096))]) (i := 1) (g := g_61) (k := 3) (cap := cap_62) (xs := [.string (dstr c.clean.level), .string (dstr (flagZ c.clean.eight)), .string (dstr (c.clean.modes / 4096))]) (pad := pad_63) (xs' := [.string (dstr c.clean.level), .string (dstr (flagZ c.clean.eight)), .string (dstr (c.clean.modes / 4096)), .string (dstr (c.clean.modes % 4096))]) (k' := 4) (L' := [(g_4, .cells (qStG_0 c) 3 (0, 0)), (g_80, .cells #[.string (dstr (c.clean.modes % 4096))] 9 (0, 0))]) hs_82 rfl rfl rfl (by kernel_rfl) (by kernel_rfl) (by kernel_rfl) (by kernel_rfl) (by kernel_rfl) rfl rfl rfl hl_66 hc_67 hm_68 rfl (src_at (cs := [.string (dstr (c.clean.modes % 4096))]) (el := 9) (by kernel_rfl) (hs_82.all 2 g_80 _ rfl) rfl rfl (List.all_eq_true.1 (by kernel_rfl))) (by decide) rfl rfl rfl (fun g_83 cap_84 pad_85 w_86 hs_87 hl_88 hc_89 hm_90 => ?_)
 have hs_87 : Bk w w_86 [(g_4, .cells (qStG_0 c) 3 (0, 0)), (g_80, .cells #[.string (dstr (c.clean.modes % 4096))] 9 (0, 0)), (g_83, .cells ⟨[.string (dstr c.clean.level), .string (dstr (flagZ c.clean.eight)), .string (dstr (c.clean.modes / 4096)), .string (dstr (c.clean.modes % 4096))] ++ pad_85⟩ 9 (0, 0))] := hs_87
 have hs_91 : Bk w w_86 [(g_4, .cells (qStG_0 c) 3 (0, 0)), (g_83, .cells ⟨[.string (dstr c.clean.level), .string (dstr (flagZ c.clean.eight)), .string (dstr (c.clean.modes / 4096)), .string (dstr (c.clean.modes % 4096))] ++ pad_85⟩ 9 (0, 0))] := hs_87.erase 1
 refine SL.v (sv g_83 0 4 cap_84) ?_
 refine SL.nil ?_
 refine CW.region ?_
 refine SL.v (iv 4) ?_
 refine SL.v (iv 4) ?_
 refine SL.nil ?_
 refine CR.fresh (fun e9 => e9 2 = .string ⟨#[]⟩ ∧ e9 3 = sv g_83 0 4 cap_84 ∧ e9 7 = sv g_4 0 12 12 ∧ e9 8 = iv 12 ∧ e9 9 = iv 4) ⟨(by kernel_rfl), (by kernel_rfl), (by kernel_rfl), (by kernel_rfl), (by kernel_rfl)⟩ ?_
 rintro e_92 ⟨hv_94, hv_95, hv_96, hv_97, hv_98⟩
 obtain ⟨e_93, rfl⟩ : ∃ e_93, e_92 = put1 (put1 (put1 (put1 (put1 e_93 2 (.string ⟨#[]⟩)) 3 (sv g_83 0 4 cap_84)) 7 (sv g_4 0 12 12)) 8 (iv 12)) 9 (iv 4) := ⟨e_92, (put_self hv_98).trans (congrArg (fun z => put1 z 9 (iv 4)) ((put_self hv_97).trans (congrArg (fun z => put1 z 8 (iv 12)) ((put_self hv_96).trans (congrArg (fun z => put1 z 7 (sv g_4 0 12 12)) ((put_self hv_95).trans (congrArg (fun z => put1 z 3 (sv g_83 0 4 cap_84)) (put_self hv_94))))))))⟩
 clear hv_94 hv_95 hv_96 hv_97 hv_98
 refine CR.more ?_
 refine CW.seq ?_
 refine CW.region ?_
 refine SL.v (.bool true) ?_
 refine SL.nil ?_
 refine CW.seq ?_
 refine CW.cond_true (by kernel_rfl) ?_
 refine CW.skip ?_
 refine CW.seq ?_
 refine CW.block ?_
 refine CW.seq ?_
 refine CW.region ?_
 refine SL.v (pv g_4 4) ?_
 refine SL.load (g := g_4) (off := 4) (v := iv (flagZ c.clean.stream)) rfl rfl rfl (by kernel_rfl) (hs_91.all 0 g_4 _ rfl) (by kernel_rfl) ?_
 refine SL.v (iv (flagZ c.clean.stream)) ?_
 refine SL.nil ?_
 refine CW.region ?_
 refine SL.v (sv g_83 0 4 cap_84) ?_
 refine SL.v (iv (flagZ c.clean.stream)) ?_
 refine SL.call (f := 49) (args := #[iv (flagZ c.clean.stream)]) (w1 := w_86) rfl rfl (by kernel_rfl) (itoa_d (flagZ c.clean.stream) w_86 (hn _ (by simp [Cor.nums])) (hT.gr hs_91.gr)) ?_
 rintro x w_99 ⟨rfl, hc_100⟩
 refine ⟨_, rfl, ?_⟩
 have hs_101 := hs_91.grow hc_100
 refine SL.new (mk := fun g => sv g 0 1 1) (C := #[.string (dstr (flagZ c.clean.stream))]) (T := 9) hs_101 rfl rfl (by kernel_rfl) (fun g_102 w_103 hs_104 => ?_)
 have hs_104 : Bk w w_103 [(g_4, .cells (qStG_0 c) 3 (0, 0)), (g_83, .cells ⟨[.string (dstr c.clean.level), .string (dstr (flagZ c.clean.eight)), .string (dstr (c.clean.modes / 4096)), .string (dstr (c.clean.modes % 4096))] ++ pad_85⟩ 9 (0, 0)), (g_102, .cells #[.string (dstr (flagZ c.clean.stream))] 9 (0, 0))] := hs_104
 refine SL.app (z := .string ⟨#[]⟩) (size := 1) (bytes := 16) (el := 9) (m := 1) (news := [.string (dstr (flagZ c.clean.stream))]) (i := 1) (g := g_83) (k := 4) (cap := cap_84) (xs := [.string (dstr c.clean.level), .string (dstr (flagZ c.clean.eight)), .string (dstr (c.clean.modes / 4096)), .string (dstr (c.clean.modes % 4096))]) (pad := pad_85) (xs' := [.string (dstr c.clean.level), .string (dstr (flagZ c.clean.eight)), .string (dstr (c.clean.modes / 4096)), .string (dstr (c.clean.modes % 4096)), .string (dstr (flagZ c.clean.stream))]) (k' := 5) (L' := [(g_4, .cells (qStG_0 c) 3 (0, 0)), (g_102, .cells #[.string (dstr (flagZ c.clean.stream))] 9 (0, 0))]) hs_104 rfl rfl rfl (by kernel_rfl) (by kernel_rfl) (by kernel_rfl) (by kernel_rfl) (by kernel_rfl) rfl rfl rfl hl_88 hc_89 hm_90 rfl (src_at (cs := [.string (dstr (flagZ c.clean.stream))]) (el := 9) (by kernel_rfl) (hs_104.all 2 g_102 _ rfl) rfl rfl (List.all_eq_true.1 (by kernel_rfl))) (by decide) rfl rfl rfl (fun g_105 cap_106 pad_107 w_108 hs_109 hl_110 hc_111 hm_112 => ?_)
 have hs_109 : Bk w w_108 [(g_4, .cells (qStG_0 c) 3 (0, 0)), (g_102, .cells #[.string (dstr (flagZ c.clean.stream))] 9 (0, 0)), (g_105, .cells ⟨[.string (dstr c.clean.level), .string (dstr (flagZ c.clean.eight)), .string (dstr (c.clean.modes / 4096)), .string (dstr (c.clean.modes % 4096)), .string (dstr (flagZ c.clean.stream))] ++ pad_107⟩ 9 (0, 0))] := hs_109
 have hs_113 : Bk w w_108 [(g_4, .cells (qStG_0 c) 3 (0, 0)), (g_105, .cells ⟨[.string (dstr c.clean.level), .string (dstr (flagZ c.clean.eight)), .string (dstr (c.clean.modes / 4096)), .string (dstr (c.clean.modes % 4096)), .string (dstr (flagZ c.clean.stream))] ++ pad_107⟩ 9 (0, 0))] := hs_109.erase 1
 refine SL.v (sv g_105 0 5 cap_106) ?_
 refine SL.nil ?_
 refine CW.region ?_
 refine SL.v (iv 5) ?_
 refine SL.v (iv 5) ?_
 refine SL.nil ?_
 refine CR.fresh (fun e9 => e9 2 = .string ⟨#[]⟩ ∧ e9 3 = sv g_105 0 5 cap_106 ∧ e9 7 = sv g_4 0 12 12 ∧ e9 8 = iv 12 ∧ e9 9 = iv 5) ⟨(by kernel_rfl), (by kernel_rfl), (by kernel_rfl), (by kernel_rfl), (by kernel_rfl)⟩ ?_
 rintro e_114 ⟨hv_116, hv_117, hv_118, hv_119, hv_120⟩
 obtain ⟨e_115, rfl⟩ : ∃ e_115, e_114 = put1 (put1 (put1 (put1 (put1 e_115 2 (.string ⟨#[]⟩)) 3 (sv g_105 0 5 cap_106)) 7 (sv g_4 0 12 12)) 8 (iv 12)) 9 (iv 5) := ⟨e_114, (put_self hv_120).trans (congrArg (fun z => put1 z 9 (iv 5)) ((put_self hv_119).trans (congrArg (fun z => put1 z 8 (iv 12)) ((put_self hv_118).trans (congrArg (fun z => put1 z 7 (sv g_4 0 12 12)) ((put_self hv_117).trans (congrArg (fun z => put1 z 3 (sv g_105 0 5 cap_106)) (put_self hv_116))))))))⟩
 clear hv_116 hv_117 hv_118 hv_119 hv_120
 refine CR.more ?_
 refine CW.seq ?_
 refine CW.region ?_
 refine SL.v (.bool true) ?_
 refine SL.nil ?_
 refine CW.seq ?_
 refine CW.cond_true (by kernel_rfl) ?_
 refine CW.skip ?_
 refine CW.seq ?_
 refine CW.block ?_
 refine CW.seq ?_
 refine CW.region ?_
 refine SL.v (pv g_4 5) ?_
 refine SL.load (g := g_4) (off := 5) (v := iv c.clean.status) rfl rfl rfl (by kernel_rfl) (hs_113.all 0 g_4 _ rfl) (by kernel_rfl) ?_
 refine SL.v (iv c.clean.status) ?_
 refine SL.nil ?_
 refine CW.region ?_
 refine SL.v (sv g_105 0 5 cap_106) ?_
 refine SL.v (iv c.clean.status) ?_
 refine SL.call (f := 49) (args := #[iv c.clean.status]) (w1 := w_108) rfl rfl (by kernel_rfl) (itoa_d c.clean.status w_108 (hn _ (by simp [Cor.nums])) (hT.gr hs_113.gr)) ?_
 rintro x w_121 ⟨rfl, hc_122⟩
 refine ⟨_, rfl, ?_⟩
 have hs_123 := hs_113.grow hc_122
 refine SL.new (mk := fun g => sv g 0 1 1) (C := #[.string (dstr c.clean.status)]) (T := 9) hs_123 rfl rfl (by kernel_rfl) (fun g_124 w_125 hs_126 => ?_)
 have hs_126 : Bk w w_125 [(g_4, .cells (qStG_0 c) 3 (0, 0)), (g_105, .cells ⟨[.string (dstr c.clean.level), .string (dstr (flagZ c.clean.eight)), .string (dstr (c.clean.modes / 4096)), .string (dstr (c.clean.modes % 4096)), .string (dstr (flagZ c.clean.stream))] ++ pad_107⟩ 9 (0, 0)), (g_124, .cells #[.string (dstr c.clean.status)] 9 (0, 0))] := hs_126
 refine SL.app (z := .string ⟨#[]⟩) (size := 1) (bytes := 16) (el := 9) (m := 1) (news := [.string (dstr c.clean.status)]) (i := 1) (g := g_105) (k := 5) (cap := cap_106) (xs := [.string (dstr c.clean.level), .string (dstr (flagZ c.clean.eight)), .string (dstr (c.clean.modes / 4096)), .string (dstr (c.clean.modes % 4096)), .string (dstr (flagZ c.clean.stream))]) (pad := pad_107) (xs' := [.string (dstr c.clean.level), .string (dstr (flagZ c.clean.eight)), .string (dstr (c.clean.modes / 4096)), .string (dstr (c.clean.modes % 4096)), .string (dstr (flagZ c.clean.stream)), .string (dstr c.clean.status)]) (k' := 6) (L' := [(g_4, .cells (qStG_0 c) 3 (0, 0)), (g_124, .cells #[.string (dstr c.clean.status)] 9 (0, 0))]) hs_126 rfl rfl rfl (by kernel_rfl) (by kernel_rfl) (by kernel_rfl) (by kernel_rfl) (by kernel_rfl) rfl rfl rfl hl_110 hc_111 hm_112 rfl (src_at (cs := [.string (dstr c.clean.status)]) (el := 9) (by kernel_rfl) (hs_126.all 2 g_124 _ rfl) rfl rfl (List.all_eq_true.1 (by kernel_rfl))) (by decide) rfl rfl rfl (fun g_127 cap_128 pad_129 w_130 hs_131 hl_132 hc_133 hm_134 => ?_)
 have hs_131 : Bk w w_130 [(g_4, .cells (qStG_0 c) 3 (0, 0)), (g_124, .cells #[.string (dstr c.clean.status)] 9 (0, 0)), (g_127, .cells ⟨[.string (dstr c.clean.level), .string (dstr (flagZ c.clean.eight)), .string (dstr (c.clean.modes / 4096)), .string (dstr (c.clean.modes % 4096)), .string (dstr (flagZ c.clean.stream)), .string (dstr c.clean.status)] ++ pad_129⟩ 9 (0, 0))] := hs_131
 have hs_135 : Bk w w_130 [(g_4, .cells (qStG_0 c) 3 (0, 0)), (g_127, .cells ⟨[.string (dstr c.clean.level), .string (dstr (flagZ c.clean.eight)), .string (dstr (c.clean.modes / 4096)), .string (dstr (c.clean.modes % 4096)), .string (dstr (flagZ c.clean.stream)), .string (dstr c.clean.status)] ++ pad_129⟩ 9 (0, 0))] := hs_131.erase 1
 refine SL.v (sv g_127 0 6 cap_128) ?_
 refine SL.nil ?_
 refine CW.region ?_
 refine SL.v (iv 6) ?_
 refine SL.v (iv 6) ?_
 refine SL.nil ?_
 refine CR.fresh (fun e9 => e9 2 = .string ⟨#[]⟩ ∧ e9 3 = sv g_127 0 6 cap_128 ∧ e9 7 = sv g_4 0 12 12 ∧ e9 8 = iv 12 ∧ e9 9 = iv 6) ⟨(by kernel_rfl), (by kernel_rfl), (by kernel_rfl), (by kernel_rfl), (by kernel_rfl)⟩ ?_
 rintro e_136 ⟨hv_138, hv_139, hv_140, hv_141, hv_142⟩
 obtain ⟨e_137, rfl⟩ : ∃ e_137, e_136 = put1 (put1 (put1 (put1 (put1 e_137 2 (.string ⟨#[]⟩)) 3 (sv g_127 0 6 cap_128)) 7 (sv g_4 0 12 12)) 8 (iv 12)) 9 (iv 6) := ⟨e_136, (put_self hv_142).trans (congrArg (fun z => put1 z 9 (iv 6)) ((put_self hv_141).trans (congrArg (fun z => put1 z 8 (iv 12)) ((put_self hv_140).trans (congrArg (fun z => put1 z 7 (sv g_4 0 12 12)) ((put_self hv_139).trans (congrArg (fun z => put1 z 3 (sv g_127 0 6 cap_128)) (put_self hv_138))))))))⟩
 clear hv_138 hv_139 hv_140 hv_141 hv_142
 refine CR.more ?_
 refine CW.seq ?_
 refine CW.region ?_
 refine SL.v (.bool true) ?_
 refine SL.nil ?_
 refine CW.seq ?_
 refine CW.cond_true (by kernel_rfl) ?_
 refine CW.skip ?_
 refine CW.seq ?_
 refine CW.block ?_
 refine CW.seq ?_
 refine CW.region ?_
 refine SL.v (pv g_4 6) ?_
 refine SL.load (g := g_4) (off := 6) (v := iv (flagZ c.clean.below)) rfl rfl rfl (by kernel_rfl) (hs_135.all 0 g_4 _ rfl) (by kernel_rfl) ?_
 refine SL.v (iv (flagZ c.clean.below)) ?_
 refine SL.nil ?_
 refine CW.region ?_
 refine SL.v (sv g_127 0 6 cap_128) ?_
 refine SL.v (iv (flagZ c.clean.below)) ?_
 refine SL.call (f := 49) (args := #[iv (flagZ c.clean.below)]) (w1 := w_130) rfl rfl (by kernel_rfl) (itoa_d (flagZ c.clean.below) w_130 (hn _ (by simp [Cor.nums])) (hT.gr hs_135.gr)) ?_
 rintro x w_143 ⟨rfl, hc_144⟩
 refine ⟨_, rfl, ?_⟩
 have hs_145 := hs_135.grow hc_144
 refine SL.new (mk := fun g => sv g 0 1 1) (C := #[.string (dstr (flagZ c.clean.below))]) (T := 9) hs_145 rfl rfl (by kernel_rfl) (fun g_146 w_147 hs_148 => ?_)
 have hs_148 : Bk w w_147 [(g_4, .cells (qStG_0 c) 3 (0, 0)), (g_127, .cells ⟨[.string (dstr c.clean.level), .string (dstr (flagZ c.clean.eight)), .string (dstr (c.clean.modes / 4096)), .string (dstr (c.clean.modes % 4096)), .string (dstr (flagZ c.clean.stream)), .string (dstr c.clean.status)] ++ pad_129⟩ 9 (0, 0)), (g_146, .cells #[.string (dstr (flagZ c.clean.below))] 9 (0, 0))] := hs_148
 refine SL.app (z := .string ⟨#[]⟩) (size := 1) (bytes := 16) (el := 9) (m := 1) (news := [.string (dstr (flagZ c.clean.below))]) (i := 1) (g := g_127) (k := 6) (cap := cap_128) (xs := [.string (dstr c.clean.level), .string (dstr (flagZ c.clean.eight)), .string (dstr (c.clean.modes / 4096)), .string (dstr (c.clean.modes % 4096)), .string (dstr (flagZ c.clean.stream)), .string (dstr c.clean.status)]) (pad := pad_129) (xs' := [.string (dstr c.clean.level), .string (dstr (flagZ c.clean.eight)), .string (dstr (c.clean.modes / 4096)), .string (dstr (c.clean.modes % 4096)), .string (dstr (flagZ c.clean.stream)), .string (dstr c.clean.status), .string (dstr (flagZ c.clean.below))]) (k' := 7) (L' := [(g_4, .cells (qStG_0 c) 3 (0, 0)), (g_146, .cells #[.string (dstr (flagZ c.clean.below))] 9 (0, 0))]) hs_148 rfl rfl rfl (by kernel_rfl) (by kernel_rfl) (by kernel_rfl) (by kernel_rfl) (by kernel_rfl) rfl rfl rfl hl_132 hc_133 hm_134 rfl (src_at (cs := [.string (dstr (flagZ c.clean.below))]) (el := 9) (by kernel_rfl) (hs_148.all 2 g_146 _ rfl) rfl rfl (List.all_eq_true.1 (by kernel_rfl))) (by decide) rfl rfl rfl (fun g_149 cap_150 pad_151 w_152 hs_153 hl_154 hc_155 hm_156 => ?_)
 have hs_153 : Bk w w_152 [(g_4, .cells (qStG_0 c) 3 (0, 0)), (g_146, .cells #[.string (dstr (flagZ c.clean.below))] 9 (0, 0)), (g_149, .cells ⟨[.string (dstr c.clean.level), .string (dstr (flagZ c.clean.eight)), .string (dstr (c.clean.modes / 4096)), .string (dstr (c.clean.modes % 4096)), .string (dstr (flagZ c.clean.stream)), .string (dstr c.clean.status), .string (dstr (flagZ c.clean.below))] ++ pad_151⟩ 9 (0, 0))] := hs_153
 have hs_157 : Bk w w_152 [(g_4, .cells (qStG_0 c) 3 (0, 0)), (g_149, .cells ⟨[.string (dstr c.clean.level), .string (dstr (flagZ c.clean.eight)), .string (dstr (c.clean.modes / 4096)), .string (dstr (c.clean.modes % 4096)), .string (dstr (flagZ c.clean.stream)), .string (dstr c.clean.status), .string (dstr (flagZ c.clean.below))] ++ pad_151⟩ 9 (0, 0))] := hs_153.erase 1
 refine SL.v (sv g_149 0 7 cap_150) ?_
 refine SL.nil ?_
 refine CW.region ?_
 refine SL.v (iv 7) ?_
 refine SL.v (iv 7) ?_
 refine SL.nil ?_
 refine CR.fresh (fun e9 => e9 2 = .string ⟨#[]⟩ ∧ e9 3 = sv g_149 0 7 cap_150 ∧ e9 7 = sv g_4 0 12 12 ∧ e9 8 = iv 12 ∧ e9 9 = iv 7) ⟨(by kernel_rfl), (by kernel_rfl), (by kernel_rfl), (by kernel_rfl), (by kernel_rfl)⟩ ?_
 rintro e_158 ⟨hv_160, hv_161, hv_162, hv_163, hv_164⟩
 obtain ⟨e_159, rfl⟩ : ∃ e_159, e_158 = put1 (put1 (put1 (put1 (put1 e_159 2 (.string ⟨#[]⟩)) 3 (sv g_149 0 7 cap_150)) 7 (sv g_4 0 12 12)) 8 (iv 12)) 9 (iv 7) := ⟨e_158, (put_self hv_164).trans (congrArg (fun z => put1 z 9 (iv 7)) ((put_self hv_163).trans (congrArg (fun z => put1 z 8 (iv 12)) ((put_self hv_162).trans (congrArg (fun z => put1 z 7 (sv g_4 0 12 12)) ((put_self hv_161).trans (congrArg (fun z => put1 z 3 (sv g_149 0 7 cap_150)) (put_self hv_160))))))))⟩
 clear hv_160 hv_161 hv_162 hv_163 hv_164
 refine CR.more ?_
 refine CW.seq ?_
 refine CW.region ?_
 refine SL.v (.bool true) ?_
 refine SL.nil ?_
 refine CW.seq ?_
 refine CW.cond_true (by kernel_rfl) ?_
 refine CW.skip ?_
 refine CW.seq ?_
 refine CW.block ?_
 refine CW.seq ?_
 refine CW.region ?_
 refine SL.v (pv g_4 7) ?_
 refine SL.load (g := g_4) (off := 7) (v := iv c.clean.mt) rfl rfl rfl (by kernel_rfl) (hs_157.all 0 g_4 _ rfl) (by kernel_rfl) ?_
 refine SL.v (iv c.clean.mt) ?_
 refine SL.nil ?_
 refine CW.region ?_
 refine SL.v (sv g_149 0 7 cap_150) ?_
 refine SL.v (iv c.clean.mt) ?_
 refine SL.call (f := 49) (args := #[iv c.clean.mt]) (w1 := w_152) rfl rfl (by kernel_rfl) (itoa_d c.clean.mt w_152 (hn _ (by simp [Cor.nums])) (hT.gr hs_157.gr)) ?_
 rintro x w_165 ⟨rfl, hc_166⟩
 refine ⟨_, rfl, ?_⟩
 have hs_167 := hs_157.grow hc_166
 refine SL.new (mk := fun g => sv g 0 1 1) (C := #[.string (dstr c.clean.mt)]) (T := 9) hs_167 rfl rfl (by kernel_rfl) (fun g_168 w_169 hs_170 => ?_)
 have hs_170 : Bk w w_169 [(g_4, .cells (qStG_0 c) 3 (0, 0)), (g_149, .cells ⟨[.string (dstr c.clean.level), .string (dstr (flagZ c.clean.eight)), .string (dstr (c.clean.modes / 4096)), .string (dstr (c.clean.modes % 4096)), .string (dstr (flagZ c.clean.stream)), .string (dstr c.clean.status), .string (dstr (flagZ c.clean.below))] ++ pad_151⟩ 9 (0, 0)), (g_168, .cells #[.string (dstr c.clean.mt)] 9 (0, 0))] := hs_170
 refine SL.app (z := .string ⟨#[]⟩) (size := 1) (bytes := 16) (el := 9) (m := 1) (news := [.string (dstr c.clean.mt)]) (i := 1) (g := g_149) (k := 7) (cap := cap_150) (xs := [.string (dstr c.clean.level), .string (dstr (flagZ c.clean.eight)), .string (dstr (c.clean.modes / 4096)), .string (dstr (c.clean.modes % 4096)), .string (dstr (flagZ c.clean.stream)), .string (dstr c.clean.status), .string (dstr (flagZ c.clean.below))]) (pad := pad_151) (xs' := [.string (dstr c.clean.level), .string (dstr (flagZ c.clean.eight)), .string (dstr (c.clean.modes / 4096)), .string (dstr (c.clean.modes % 4096)), .string (dstr (flagZ c.clean.stream)), .string (dstr c.clean.status), .string (dstr (flagZ c.clean.below)), .string (dstr c.clean.mt)]) (k' := 8) (L' := [(g_4, .cells (qStG_0 c) 3 (0, 0)), (g_168, .cells #[.string (dstr c.clean.mt)] 9 (0, 0))]) hs_170 rfl rfl rfl (by kernel_rfl) (by kernel_rfl) (by kernel_rfl) (by kernel_rfl) (by kernel_rfl) rfl rfl rfl hl_154 hc_155 hm_156 rfl (src_at (cs := [.string (dstr c.clean.mt)]) (el := 9) (by kernel_rfl) (hs_170.all 2 g_168 _ rfl) rfl rfl (List.all_eq_true.1 (by kernel_rfl))) (by decide) rfl rfl rfl (fun g_171 cap_172 pad_173 w_174 hs_175 hl_176 hc_177 hm_178 => ?_)
 have hs_175 : Bk w w_174 [(g_4, .cells (qStG_0 c) 3 (0, 0)), (g_168, .cells #[.string (dstr c.clean.mt)] 9 (0, 0)), (g_171, .cells ⟨[.string (dstr c.clean.level), .string (dstr (flagZ c.clean.eight)), .string (dstr (c.clean.modes / 4096)), .string (dstr (c.clean.modes % 4096)), .string (dstr (flagZ c.clean.stream)), .string (dstr c.clean.status), .string (dstr (flagZ c.clean.below)), .string (dstr c.clean.mt)] ++ pad_173⟩ 9 (0, 0))] := hs_175
 have hs_179 : Bk w w_174 [(g_4, .cells (qStG_0 c) 3 (0, 0)), (g_171, .cells ⟨[.string (dstr c.clean.level), .string (dstr (flagZ c.clean.eight)), .string (dstr (c.clean.modes / 4096)), .string (dstr (c.clean.modes % 4096)), .string (dstr (flagZ c.clean.stream)), .string (dstr c.clean.status), .string (dstr (flagZ c.clean.below)), .string (dstr c.clean.mt)] ++ pad_173⟩ 9 (0, 0))] := hs_175.erase 1
 refine SL.v (sv g_171 0 8 cap_172) ?_
 refine SL.nil ?_
 refine CW.region ?_
 refine SL.v (iv 8) ?_
 refine SL.v (iv 8) ?_
 refine SL.nil ?_
 refine CR.fresh (fun e9 => e9 2 = .string ⟨#[]⟩ ∧ e9 3 = sv g_171 0 8 cap_172 ∧ e9 7 = sv g_4 0 12 12 ∧ e9 8 = iv 12 ∧ e9 9 = iv 8) ⟨(by kernel_rfl), (by kernel_rfl), (by kernel_rfl), (by kernel_rfl), (by kernel_rfl)⟩ ?_
 rintro e_180 ⟨hv_182, hv_183, hv_184, hv_185, hv_186⟩
 obtain ⟨e_181, rfl⟩ : ∃ e_181, e_180 = put1 (put1 (put1 (put1 (put1 e_181 2 (.string ⟨#[]⟩)) 3 (sv g_171 0 8 cap_172)) 7 (sv g_4 0 12 12)) 8 (iv 12)) 9 (iv 8) := ⟨e_180, (put_self hv_186).trans (congrArg (fun z => put1 z 9 (iv 8)) ((put_self hv_185).trans (congrArg (fun z => put1 z 8 (iv 12)) ((put_self hv_184).trans (congrArg (fun z => put1 z 7 (sv g_4 0 12 12)) ((put_self hv_183).trans (congrArg (fun z => put1 z 3 (sv g_171 0 8 cap_172)) (put_self hv_182))))))))⟩
 clear hv_182 hv_183 hv_184 hv_185 hv_186
 refine CR.more ?_
 refine CW.seq ?_
 refine CW.region ?_
 refine SL.v (.bool true) ?_
 refine SL.nil ?_
 refine CW.seq ?_
 refine CW.cond_true (by kernel_rfl) ?_
 refine CW.skip ?_
 refine CW.seq ?_
 refine CW.block ?_
 refine CW.seq ?_
 refine CW.region ?_
 refine SL.v (pv g_4 8) ?_
 refine SL.load (g := g_4) (off := 8) (v := iv c.clean.ml) rfl rfl rfl (by kernel_rfl) (hs_179.all 0 g_4 _ rfl) (by kernel_rfl) ?_
 refine SL.v (iv c.clean.ml) ?_
 refine SL.nil ?_
 refine CW.region ?_
 refine SL.v (sv g_171 0 8 cap_172) ?_
 refine SL.v (iv c.clean.ml) ?_
 refine SL.call (f := 49) (args := #[iv c.clean.ml]) (w1 := w_174) rfl rfl (by kernel_rfl) (itoa_d c.clean.ml w_174 (hn _ (by simp [Cor.nums])) (hT.gr hs_179.gr)) ?_
 rintro x w_187 ⟨rfl, hc_188⟩
 refine ⟨_, rfl, ?_⟩
 have hs_189 := hs_179.grow hc_188
 refine SL.new (mk := fun g => sv g 0 1 1) (C := #[.string (dstr c.clean.ml)]) (T := 9) hs_189 rfl rfl (by kernel_rfl) (fun g_190 w_191 hs_192 => ?_)
 have hs_192 : Bk w w_191 [(g_4, .cells (qStG_0 c) 3 (0, 0)), (g_171, .cells ⟨[.string (dstr c.clean.level), .string (dstr (flagZ c.clean.eight)), .string (dstr (c.clean.modes / 4096)), .string (dstr (c.clean.modes % 4096)), .string (dstr (flagZ c.clean.stream)), .string (dstr c.clean.status), .string (dstr (flagZ c.clean.below)), .string (dstr c.clean.mt)] ++ pad_173⟩ 9 (0, 0)), (g_190, .cells #[.string (dstr c.clean.ml)] 9 (0, 0))] := hs_192
 refine SL.app (z := .string ⟨#[]⟩) (size := 1) (bytes := 16) (el := 9) (m := 1) (news := [.string (dstr c.clean.ml)]) (i := 1) (g := g_171) (k := 8) (cap := cap_172) (xs := [.string (dstr c.clean.level), .string (dstr (flagZ c.clean.eight)), .string (dstr (c.clean.modes / 4096)), .string (dstr (c.clean.modes % 4096)), .string (dstr (flagZ c.clean.stream)), .string (dstr c.clean.status), .string (dstr (flagZ c.clean.below)), .string (dstr c.clean.mt)]) (pad := pad_173) (xs' := [.string (dstr c.clean.level), .string (dstr (flagZ c.clean.eight)), .string (dstr (c.clean.modes / 4096)), .string (dstr (c.clean.modes % 4096)), .string (dstr (flagZ c.clean.stream)), .string (dstr c.clean.status), .string (dstr (flagZ c.clean.below)), .string (dstr c.clean.mt), .string (dstr c.clean.ml)]) (k' := 9) (L' := [(g_4, .cells (qStG_0 c) 3 (0, 0)), (g_190, .cells #[.string (dstr c.clean.ml)] 9 (0, 0))]) hs_192 rfl rfl rfl (by kernel_rfl) (by kernel_rfl) (by kernel_rfl) (by kernel_rfl) (by kernel_rfl) rfl rfl rfl hl_176 hc_177 hm_178 rfl (src_at (cs := [.string (dstr c.clean.ml)]) (el := 9) (by kernel_rfl) (hs_192.all 2 g_190 _ rfl) rfl rfl (List.all_eq_true.1 (by kernel_rfl))) (by decide) rfl rfl rfl (fun g_193 cap_194 pad_195 w_196 hs_197 hl_198 hc_199 hm_200 => ?_)
 have hs_197 : Bk w w_196 [(g_4, .cells (qStG_0 c) 3 (0, 0)), (g_190, .cells #[.string (dstr c.clean.ml)] 9 (0, 0)), (g_193, .cells ⟨[.string (dstr c.clean.level), .string (dstr (flagZ c.clean.eight)), .string (dstr (c.clean.modes / 4096)), .string (dstr (c.clean.modes % 4096)), .string (dstr (flagZ c.clean.stream)), .string (dstr c.clean.status), .string (dstr (flagZ c.clean.below)), .string (dstr c.clean.mt), .string (dstr c.clean.ml)] ++ pad_195⟩ 9 (0, 0))] := hs_197
 have hs_201 : Bk w w_196 [(g_4, .cells (qStG_0 c) 3 (0, 0)), (g_193, .cells ⟨[.string (dstr c.clean.level), .string (dstr (flagZ c.clean.eight)), .string (dstr (c.clean.modes / 4096)), .string (dstr (c.clean.modes % 4096)), .string (dstr (flagZ c.clean.stream)), .string (dstr c.clean.status), .string (dstr (flagZ c.clean.below)), .string (dstr c.clean.mt), .string (dstr c.clean.ml)] ++ pad_195⟩ 9 (0, 0))] := hs_197.erase 1
 refine SL.v (sv g_193 0 9 cap_194) ?_
 refine SL.nil ?_
 refine CW.region ?_
 refine SL.v (iv 9) ?_
 refine SL.v (iv 9) ?_
 refine SL.nil ?_
 refine CR.fresh (fun e9 => e9 2 = .string ⟨#[]⟩ ∧ e9 3 = sv g_193 0 9 cap_194 ∧ e9 7 = sv g_4 0 12 12 ∧ e9 8 = iv 12 ∧ e9 9 = iv 9) ⟨(by kernel_rfl), (by kernel_rfl), (by kernel_rfl), (by kernel_rfl), (by kernel_rfl)⟩ ?_
 rintro e_202 ⟨hv_204, hv_205, hv_206, hv_207, hv_208⟩
 obtain ⟨e_203, rfl⟩ : ∃ e_203, e_202 = put1 (put1 (put1 (put1 (put1 e_203 2 (.string ⟨#[]⟩)) 3 (sv g_193 0 9 cap_194)) 7 (sv g_4 0 12 12)) 8 (iv 12)) 9 (iv 9) := ⟨e_202, (put_self hv_208).trans (congrArg (fun z => put1 z 9 (iv 9)) ((put_self hv_207).trans (congrArg (fun z => put1 z 8 (iv 12)) ((put_self hv_206).trans (congrArg (fun z => put1 z 7 (sv g_4 0 12 12)) ((put_self hv_205).trans (congrArg (fun z => put1 z 3 (sv g_193 0 9 cap_194)) (put_self hv_204))))))))⟩
 clear hv_204 hv_205 hv_206 hv_207 hv_208
 refine CR.more ?_
 refine CW.seq ?_
 refine CW.region ?_
 refine SL.v (.bool true) ?_
 refine SL.nil ?_
 refine CW.seq ?_
 refine CW.cond_true (by kernel_rfl) ?_
 refine CW.skip ?_
 refine CW.seq ?_
 refine CW.block ?_
 refine CW.seq ?_
 refine CW.region ?_
 refine SL.v (pv g_4 9) ?_
 refine SL.load (g := g_4) (off := 9) (v := iv c.clean.mb) rfl rfl rfl (by kernel_rfl) (hs_201.all 0 g_4 _ rfl) (by kernel_rfl) ?_
 refine SL.v (iv c.clean.mb) ?_
 refine SL.nil ?_
 refine CW.region ?_
 refine SL.v (sv g_193 0 9 cap_194) ?_
 refine SL.v (iv c.clean.mb) ?_
 refine SL.call (f := 49) (args := #[iv c.clean.mb]) (w1 := w_196) rfl rfl (by kernel_rfl) (itoa_d c.clean.mb w_196 (hn _ (by simp [Cor.nums])) (hT.gr hs_201.gr)) ?_
 rintro x w_209 ⟨rfl, hc_210⟩
 refine ⟨_, rfl, ?_⟩
 have hs_211 := hs_201.grow hc_210
 refine SL.new (mk := fun g => sv g 0 1 1) (C := #[.string (dstr c.clean.mb)]) (T := 9) hs_211 rfl rfl (by kernel_rfl) (fun g_212 w_213 hs_214 => ?_)
 have hs_214 : Bk w w_213 [(g_4, .cells (qStG_0 c) 3 (0, 0)), (g_193, .cells ⟨[.string (dstr c.clean.level), .string (dstr (flagZ c.clean.eight)), .string (dstr (c.clean.modes / 4096)), .string (dstr (c.clean.modes % 4096)), .string (dstr (flagZ c.clean.stream)), .string (dstr c.clean.status), .string (dstr (flagZ c.clean.below)), .string (dstr c.clean.mt), .string (dstr c.clean.ml)] ++ pad_195⟩ 9 (0, 0)), (g_212, .cells #[.string (dstr c.clean.mb)] 9 (0, 0))] := hs_214
 refine SL.app (z := .string ⟨#[]⟩) (size := 1) (bytes := 16) (el := 9) (m := 1) (news := [.string (dstr c.clean.mb)]) (i := 1) (g := g_193) (k := 9) (cap := cap_194) (xs := [.string (dstr c.clean.level), .string (dstr (flagZ c.clean.eight)), .string (dstr (c.clean.modes / 4096)), .string (dstr (c.clean.modes % 4096)), .string (dstr (flagZ c.clean.stream)), .string (dstr c.clean.status), .string (dstr (flagZ c.clean.below)), .string (dstr c.clean.mt), .string (dstr c.clean.ml)]) (pad := pad_195) (xs' := [.string (dstr c.clean.level), .string (dstr (flagZ c.clean.eight)), .string (dstr (c.clean.modes / 4096)), .string (dstr (c.clean.modes % 4096)), .string (dstr (flagZ c.clean.stream)), .string (dstr c.clean.status), .string (dstr (flagZ c.clean.below)), .string (dstr c.clean.mt), .string (dstr c.clean.ml), .string (dstr c.clean.mb)]) (k' := 10) (L' := [(g_4, .cells (qStG_0 c) 3 (0, 0)), (g_212, .cells #[.string (dstr c.clean.mb)] 9 (0, 0))]) hs_214 rfl rfl rfl (by kernel_rfl) (by kernel_rfl) (by kernel_rfl) (by kernel_rfl) (by kernel_rfl) rfl rfl rfl hl_198 hc_199 hm_200 rfl (src_at (cs := [.string (dstr c.clean.mb)]) (el := 9) (by kernel_rfl) (hs_214.all 2 g_212 _ rfl) rfl rfl (List.all_eq_true.1 (by kernel_rfl))) (by decide) rfl rfl rfl (fun g_215 cap_216 pad_217 w_218 hs_219 hl_220 hc_221 hm_222 => ?_)
 have hs_219 : Bk w w_218 [(g_4, .cells (qStG_0 c) 3 (0, 0)), (g_212, .cells #[.string (dstr c.clean.mb)] 9 (0, 0)), (g_215, .cells ⟨[.string (dstr c.clean.level), .string (dstr (flagZ c.clean.eight)), .string (dstr (c.clean.modes / 4096)), .string (dstr (c.clean.modes % 4096)), .string (dstr (flagZ c.clean.stream)), .string (dstr c.clean.status), .string (dstr (flagZ c.clean.below)), .string (dstr c.clean.mt), .string (dstr c.clean.ml), .string (dstr c.clean.mb)] ++ pad_217⟩ 9 (0, 0))] := hs_219
 have hs_223 : Bk w w_218 [(g_4, .cells (qStG_0 c) 3 (0, 0)), (g_215, .cells ⟨[.string (dstr c.clean.level), .string (dstr (flagZ c.clean.eight)), .string (dstr (c.clean.modes / 4096)), .string (dstr (c.clean.modes % 4096)), .string (dstr (flagZ c.clean.stream)), .string (dstr c.clean.status), .string (dstr (flagZ c.clean.below)), .string (dstr c.clean.mt), .string (dstr c.clean.ml), .string (dstr c.clean.mb)] ++ pad_217⟩ 9 (0, 0))] := hs_219.erase 1
 refine SL.v (sv g_215 0 10 cap_216) ?_
 refine SL.nil ?_
 refine CW.region ?_
 refine SL.v (iv 10) ?_
 refine SL.v (iv 10) ?_
 refine SL.nil ?_
 refine CR.fresh (fun e9 => e9 2 = .string ⟨#[]⟩ ∧ e9 3 = sv g_215 0 10 cap_216 ∧ e9 7 = sv g_4 0 12 12 ∧ e9 8 = iv 12 ∧ e9 9 = iv 10) ⟨(by kernel_rfl), (by kernel_rfl), (by kernel_rfl), (by kernel_rfl), (by kernel_rfl)⟩ ?_
 rintro e_224 ⟨hv_226, hv_227, hv_228, hv_229, hv_230⟩
 obtain ⟨e_225, rfl⟩ : ∃ e_225, e_224 = put1 (put1 (put1 (put1 (put1 e_225 2 (.string ⟨#[]⟩)) 3 (sv g_215 0 10 cap_216)) 7 (sv g_4 0 12 12)) 8 (iv 12)) 9 (iv 10) := ⟨e_224, (put_self hv_230).trans (congrArg (fun z => put1 z 9 (iv 10)) ((put_self hv_229).trans (congrArg (fun z => put1 z 8 (iv 12)) ((put_self hv_228).trans (congrArg (fun z => put1 z 7 (sv g_4 0 12 12)) ((put_self hv_227).trans (congrArg (fun z => put1 z 3 (sv g_215 0 10 cap_216)) (put_self hv_226))))))))⟩
 clear hv_226 hv_227 hv_228 hv_229 hv_230
 refine CR.more ?_
 refine CW.seq ?_
 refine CW.region ?_
 refine SL.v (.bool true) ?_
 refine SL.nil ?_
 refine CW.seq ?_
 refine CW.cond_true (by kernel_rfl) ?_
 refine CW.skip ?_
 refine CW.seq ?_
 refine CW.block ?_
 refine CW.seq ?_
 refine CW.region ?_
 refine SL.v (pv g_4 10) ?_
 refine SL.load (g := g_4) (off := 10) (v := iv c.clean.mr) rfl rfl rfl (by kernel_rfl) (hs_223.all 0 g_4 _ rfl) (by kernel_rfl) ?_
 refine SL.v (iv c.clean.mr) ?_
 refine SL.nil ?_
 refine CW.region ?_
 refine SL.v (sv g_215 0 10 cap_216) ?_
 refine SL.v (iv c.clean.mr) ?_
 refine SL.call (f := 49) (args := #[iv c.clean.mr]) (w1 := w_218) rfl rfl (by kernel_rfl) (itoa_d c.clean.mr w_218 (hn _ (by simp [Cor.nums])) (hT.gr hs_223.gr)) ?_
 rintro x w_231 ⟨rfl, hc_232⟩
 refine ⟨_, rfl, ?_⟩
 have hs_233 := hs_223.grow hc_232
 refine SL.new (mk := fun g => sv g 0 1 1) (C := #[.string (dstr c.clean.mr)]) (T := 9) hs_233 rfl rfl (by kernel_rfl) (fun g_234 w_235 hs_236 => ?_)
 have hs_236 : Bk w w_235 [(g_4, .cells (qStG_0 c) 3 (0, 0)), (g_215, .cells ⟨[.string (dstr c.clean.level), .string (dstr (flagZ c.clean.eight)), .string (dstr (c.clean.modes / 4096)), .string (dstr (c.clean.modes % 4096)), .string (dstr (flagZ c.clean.stream)), .string (dstr c.clean.status), .string (dstr (flagZ c.clean.below)), .string (dstr c.clean.mt), .string (dstr c.clean.ml), .string (dstr c.clean.mb)] ++ pad_217⟩ 9 (0, 0)), (g_234, .cells #[.string (dstr c.clean.mr)] 9 (0, 0))] := hs_236
 refine SL.app (z := .string ⟨#[]⟩) (size := 1) (bytes := 16) (el := 9) (m := 1) (news := [.string (dstr c.clean.mr)]) (i := 1) (g := g_215) (k := 10) (cap := cap_216) (xs := [.string (dstr c.clean.level), .string (dstr (flagZ c.clean.eight)), .string (dstr (c.clean.modes / 4096)), .string (dstr (c.clean.modes % 4096)), .string (dstr (flagZ c.clean.stream)), .string (dstr c.clean.status), .string (dstr (flagZ c.clean.below)), .string (dstr c.clean.mt), .string (dstr c.clean.ml), .string (dstr c.clean.mb)]) (pad := pad_217) (xs' := [.string (dstr c.clean.level), .string (dstr (flagZ c.clean.eight)), .string (dstr (c.clean.modes / 4096)), .string (dstr (c.clean.modes % 4096)), .string (dstr (flagZ c.clean.stream)), .string (dstr c.clean.status), .string (dstr (flagZ c.clean.below)), .string (dstr c.clean.mt), .string (dstr c.clean.ml), .string (dstr c.clean.mb), .string (dstr c.clean.mr)]) (k' := 11) (L' := [(g_4, .cells (qStG_0 c) 3 (0, 0)), (g_234, .cells #[.string (dstr c.clean.mr)] 9 (0, 0))]) hs_236 rfl rfl rfl (by kernel_rfl) (by kernel_rfl) (by kernel_rfl) (by kernel_rfl) (by kernel_rfl) rfl rfl rfl hl_220 hc_221 hm_222 rfl (src_at (cs := [.string (dstr c.clean.mr)]) (el := 9) (by kernel_rfl) (hs_236.all 2 g_234 _ rfl) rfl rfl (List.all_eq_true.1 (by kernel_rfl))) (by decide) rfl rfl rfl (fun g_237 cap_238 pad_239 w_240 hs_241 hl_242 hc_243 hm_244 => ?_)
 have hs_241 : Bk w w_240 [(g_4, .cells (qStG_0 c) 3 (0, 0)), (g_234, .cells #[.string (dstr c.clean.mr)] 9 (0, 0)), (g_237, .cells ⟨[.string (dstr c.clean.level), .string (dstr (flagZ c.clean.eight)), .string (dstr (c.clean.modes / 4096)), .string (dstr (c.clean.modes % 4096)), .string (dstr (flagZ c.clean.stream)), .string (dstr c.clean.status), .string (dstr (flagZ c.clean.below)), .string (dstr c.clean.mt), .string (dstr c.clean.ml), .string (dstr c.clean.mb), .string (dstr c.clean.mr)] ++ pad_239⟩ 9 (0, 0))] := hs_241
 have hs_245 : Bk w w_240 [(g_4, .cells (qStG_0 c) 3 (0, 0)), (g_237, .cells ⟨[.string (dstr c.clean.level), .string (dstr (flagZ c.clean.eight)), .string (dstr (c.clean.modes / 4096)), .string (dstr (c.clean.modes % 4096)), .string (dstr (flagZ c.clean.stream)), .string (dstr c.clean.status), .string (dstr (flagZ c.clean.below)), .string (dstr c.clean.mt), .string (dstr c.clean.ml), .string (dstr c.clean.mb), .string (dstr c.clean.mr)] ++ pad_239⟩ 9 (0, 0))] := hs_241.erase 1
 refine SL.v (sv g_237 0 11 cap_238) ?_
 refine SL.nil ?_
 refine CW.region ?_
 refine SL.v (iv 11) ?_
 refine SL.v (iv 11) ?_
 refine SL.nil ?_
 refine CR.fresh (fun e9 => e9 2 = .string ⟨#[]⟩ ∧ e9 3 = sv g_237 0 11 cap_238 ∧ e9 7 = sv g_4 0 12 12 ∧ e9 8 = iv 12 ∧ e9 9 = iv 11) ⟨(by kernel_rfl), (by kernel_rfl), (by kernel_rfl), (by kernel_rfl), (by kernel_rfl)⟩ ?_
 rintro e_246 ⟨hv_248, hv_249, hv_250, hv_251, hv_252⟩
 obtain ⟨e_247, rfl⟩ : ∃ e_247, e_246 = put1 (put1 (put1 (put1 (put1 e_247 2 (.string ⟨#[]⟩)) 3 (sv g_237 0 11 cap_238)) 7 (sv g_4 0 12 12)) 8 (iv 12)) 9 (iv 11) := ⟨e_246, (put_self hv_252).trans (congrArg (fun z => put1 z 9 (iv 11)) ((put_self hv_251).trans (congrArg (fun z => put1 z 8 (iv 12)) ((put_self hv_250).trans (congrArg (fun z => put1 z 7 (sv g_4 0 12 12)) ((put_self hv_249).trans (congrArg (fun z => put1 z 3 (sv g_237 0 11 cap_238)) (put_self hv_248))))))))⟩
 clear hv_248 hv_249 hv_250 hv_251 hv_252
 refine CR.more ?_
 refine CW.seq ?_
 refine CW.region ?_
 refine SL.v (.bool true) ?_
 refine SL.nil ?_
 refine CW.seq ?_
 refine CW.cond_true (by kernel_rfl) ?_
 refine CW.skip ?_
 refine CW.seq ?_
 refine CW.block ?_
 refine CW.seq ?_
 refine CW.region ?_
 refine SL.v (pv g_4 11) ?_
 refine SL.load (g := g_4) (off := 11) (v := iv (flagZ c.clean.origin)) rfl rfl rfl (by kernel_rfl) (hs_245.all 0 g_4 _ rfl) (by kernel_rfl) ?_
 refine SL.v (iv (flagZ c.clean.origin)) ?_
 refine SL.nil ?_
 refine CW.region ?_
 refine SL.v (sv g_237 0 11 cap_238) ?_
 refine SL.v (iv (flagZ c.clean.origin)) ?_
 refine SL.call (f := 49) (args := #[iv (flagZ c.clean.origin)]) (w1 := w_240) rfl rfl (by kernel_rfl) (itoa_d (flagZ c.clean.origin) w_240 (hn _ (by simp [Cor.nums])) (hT.gr hs_245.gr)) ?_
 rintro x w_253 ⟨rfl, hc_254⟩
 refine ⟨_, rfl, ?_⟩
 have hs_255 := hs_245.grow hc_254
 refine SL.new (mk := fun g => sv g 0 1 1) (C := #[.string (dstr (flagZ c.clean.origin))]) (T := 9) hs_255 rfl rfl (by kernel_rfl) (fun g_256 w_257 hs_258 => ?_)
 have hs_258 : Bk w w_257 [(g_4, .cells (qStG_0 c) 3 (0, 0)), (g_237, .cells ⟨[.string (dstr c.clean.level), .string (dstr (flagZ c.clean.eight)), .string (dstr (c.clean.modes / 4096)), .string (dstr (c.clean.modes % 4096)), .string (dstr (flagZ c.clean.stream)), .string (dstr c.clean.status), .string (dstr (flagZ c.clean.below)), .string (dstr c.clean.mt), .string (dstr c.clean.ml), .string (dstr c.clean.mb), .string (dstr c.clean.mr)] ++ pad_239⟩ 9 (0, 0)), (g_256, .cells #[.string (dstr (flagZ c.clean.origin))] 9 (0, 0))] := hs_258
 refine SL.app (z := .string ⟨#[]⟩) (size := 1) (bytes := 16) (el := 9) (m := 1) (news := [.string (dstr (flagZ c.clean.origin))]) (i := 1) (g := g_237) (k := 11) (cap := cap_238) (xs := [.string (dstr c.clean.level), .string (dstr (flagZ c.clean.eight)), .string (dstr (c.clean.modes / 4096)), .string (dstr (c.clean.modes % 4096)), .string (dstr (flagZ c.clean.stream)), .string (dstr c.clean.status), .string (dstr (flagZ c.clean.below)), .string (dstr c.clean.mt), .string (dstr c.clean.ml), .string (dstr c.clean.mb), .string (dstr c.clean.mr)]) (pad := pad_239) (xs' := [.string (dstr c.clean.level), .string (dstr (flagZ c.clean.eight)), .string (dstr (c.clean.modes / 4096)), .string (dstr (c.clean.modes % 4096)), .string (dstr (flagZ c.clean.stream)), .string (dstr c.clean.status), .string (dstr (flagZ c.clean.below)), .string (dstr c.clean.mt), .string (dstr c.clean.ml), .string (dstr c.clean.mb), .string (dstr c.clean.mr), .string (dstr (flagZ c.clean.origin))]) (k' := 12) (L' := [(g_4, .cells (qStG_0 c) 3 (0, 0)), (g_256, .cells #[.string (dstr (flagZ c.clean.origin))] 9 (0, 0))]) hs_258 rfl rfl rfl (by kernel_rfl) (by kernel_rfl) (by kernel_rfl) (by kernel_rfl) (by kernel_rfl) rfl rfl rfl hl_242 hc_243 hm_244 rfl (src_at (cs := [.string (dstr (flagZ c.clean.origin))]) (el := 9) (by kernel_rfl) (hs_258.all 2 g_256 _ rfl) rfl rfl (List.all_eq_true.1 (by kernel_rfl))) (by decide) rfl rfl rfl (fun g_259 cap_260 pad_261 w_262 hs_263 hl_264 hc_265 hm_266 => ?_)
 have hs_263 : Bk w w_262 [(g_4, .cells (qStG_0 c) 3 (0, 0)), (g_256, .cells #[.string (dstr (flagZ c.clean.origin))] 9 (0, 0)), (g_259, .cells ⟨[.string (dstr c.clean.level), .string (dstr (flagZ c.clean.eight)), .string (dstr (c.clean.modes / 4096)), .string (dstr (c.clean.modes % 4096)), .string (dstr (flagZ c.clean.stream)), .string (dstr c.clean.status), .string (dstr (flagZ c.clean.below)), .string (dstr c.clean.mt), .string (dstr c.clean.ml), .string (dstr c.clean.mb), .string (dstr c.clean.mr), .string (dstr (flagZ c.clean.origin))] ++ pad_261⟩ 9 (0, 0))] := hs_263
 have hs_267 : Bk w w_262 [(g_4, .cells (qStG_0 c) 3 (0, 0)), (g_259, .cells ⟨[.string (dstr c.clean.level), .string (dstr (flagZ c.clean.eight)), .string (dstr (c.clean.modes / 4096)), .string (dstr (c.clean.modes % 4096)), .string (dstr (flagZ c.clean.stream)), .string (dstr c.clean.status), .string (dstr (flagZ c.clean.below)), .string (dstr c.clean.mt), .string (dstr c.clean.ml), .string (dstr c.clean.mb), .string (dstr c.clean.mr), .string (dstr (flagZ c.clean.origin))] ++ pad_261⟩ 9 (0, 0))] := hs_263.erase 1
 refine SL.v (sv g_259 0 12 cap_260) ?_
 refine SL.nil ?_
 refine CW.region ?_
 refine SL.v (iv 12) ?_
 refine SL.v (iv 12) ?_
 refine SL.nil ?_
 refine CR.fresh (fun e9 => e9 2 = .string ⟨#[]⟩ ∧ e9 3 = sv g_259 0 12 cap_260 ∧ e9 7 = sv g_4 0 12 12 ∧ e9 8 = iv 12 ∧ e9 9 = iv 12) ⟨(by kernel_rfl), (by kernel_rfl), (by kernel_rfl), (by kernel_rfl), (by kernel_rfl)⟩ ?_
 rintro e_268 ⟨hv_270, hv_271, hv_272, hv_273, hv_274⟩
 obtain ⟨e_269, rfl⟩ : ∃ e_269, e_268 = put1 (put1 (put1 (put1 (put1 e_269 2 (.string ⟨#[]⟩)) 3 (sv g_259 0 12 cap_260)) 7 (sv g_4 0 12 12)) 8 (iv 12)) 9 (iv 12) := ⟨e_268, (put_self hv_274).trans (congrArg (fun z => put1 z 9 (iv 12)) ((put_self hv_273).trans (congrArg (fun z => put1 z 8 (iv 12)) ((put_self hv_272).trans (congrArg (fun z => put1 z 7 (sv g_4 0 12 12)) ((put_self hv_271).trans (congrArg (fun z => put1 z 3 (sv g_259 0 12 cap_260)) (put_self hv_270))))))))⟩
 clear hv_270 hv_271 hv_272 hv_273 hv_274
 refine CR.more ?_
 refine CW.seq ?_
 refine CW.region ?_
 refine SL.v (.bool false) ?_
 refine SL.nil ?_
 refine CW.seq ?_
 refine CW.cond_false (by kernel_rfl) ?_
 refine CW.exit ?_
 repeat with_reducible first | refine PThen.exit ?_ | refine PBlock.out rfl ?_
 with_reducible refine PBlock.here ?_
 repeat with_reducible refine PBlock.normal ?_
 refine CW.seq ?_
 refine CW.region ?_
 refine SL.v (sv g_259 0 12 cap_260) ?_
 refine SL.call (f := 22) (args := #[sv g_259 0 12 cap_260, .string ⟨#[59]⟩]) (w1 := w_262) rfl rfl (by kernel_rfl) (join_d (g := g_259) (cap := cap_260) [c.clean.level, flagZ c.clean.eight, c.clean.modes / 4096, c.clean.modes % 4096, flagZ c.clean.stream, c.clean.status, flagZ c.clean.below, c.clean.mt, c.clean.ml, c.clean.mb, c.clean.mr, flagZ c.clean.origin] (hs_267.all 1 g_259 _ rfl) hc_265 (Nat.le_of_ble_eq_true (by kernel_rfl))) ?_
 rintro x w_275 ⟨rfl, hc_276⟩
 refine ⟨_, rfl, ?_⟩
 have hs_277 := hs_267.grow hc_276
 refine SL.v (.string (strOf (fmtGo [c.clean.level, flagZ c.clean.eight, c.clean.modes / 4096, c.clean.modes % 4096, flagZ c.clean.stream, c.clean.status, flagZ c.clean.below, c.clean.mt, c.clean.ml, c.clean.mb, c.clean.mr, flagZ c.clean.origin]))) ?_
 refine SL.nil ?_
 refine CW.ret ?_
 repeat with_reducible first | refine PThen.ret ?_ | refine PBlock.ret ?_
 refine PRet.tmp (t := 2) (v := .string (strOf (fmtGo [c.clean.level, flagZ c.clean.eight, c.clean.modes / 4096, c.clean.modes % 4096, flagZ c.clean.stream, c.clean.status, flagZ c.clean.below, c.clean.mt, c.clean.ml, c.clean.mb, c.clean.mr, flagZ c.clean.origin]))) rfl rfl (by kernel_rfl) ?_
 exact ⟨rfl, hs_277.gr⟩
end Go.Proofs.YtfkecgkfcldffaaGreatDoor
