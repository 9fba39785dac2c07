/-
  Tab stops: the law TabsReport.
-/
import Derived.Test.YtjdmobildcgidaaDoorTbR
import Derived.Test.YtjdmobildcgidaaDoorTbZa
namespace Go.Proofs.YtjdmobildcgidaaDoor
set_option linter.unusedSimpArgs false
set_option linter.unusedVariables false
open Go.RowKit
set_option linter.unusedVariables false

theorem LAt.gr {w w' : World} {p : Nat} {l : List Bool} (h : LAt w p l) (hg : Gr w w') : LAt w' p l := StAt.gr h hg
theorem clN_self (n : Nat) (h : n ≤ 500) : clN (n : Int) = n := by unfold clN; omega

set_option maxRecDepth 100000 in
set_option maxHeartbeats 4000000 in
theorem report_walk (a a2 : Option Addr) (len cap len2 cap2 : Nat) (w : World) (hacts : IsStructs w a len 3 actF) (hacts2 : IsStructs w a2 len2 3 actF) (hT : TabOk w) (hT2 : tabT w) (hM : MaxOk w) :
    Calls Tryd.prog 8 #[.slice a len cap, .slice a2 len2 cap2] w fun e w' => e = .returned (.bool true) ∧ Gr w w' := by
  have haw := awake_any w hT
  have hpl := fun (W : World) (hg : Gr w W) => played_any 60 a len cap W (hacts.gr hg) (hT.gr hg) (hM.gr hg)
  have hpl2 := fun (W : World) (hg : Gr w W) => played_any 60 a2 len2 cap2 W (hacts2.gr hg) (hT.gr hg) (hM.gr hg)
  have HT := Lib.hid hT
  have HT2 := Lib.hid hT2
  have HM := Lib.hid hM
  clear hacts hacts2 hT hT2 hM
  go_enter Tryd.func8, Tryd.ntmps8
  go_wp2_with fail
  (with_reducible refine haw.mono ?_)
  rintro e w1 ⟨rfl, hg1⟩
  go_wp2_with fail
  (with_reducible refine (hpl _ hg1).mono ?_)
  rintro e w2 ⟨p, v, l, rfl, hp, hst, hbl, hln, hg2⟩
  have hgw2 := hg1.trans hg2
  go_wp2_with fail
  (with_reducible refine (hpl2 _ hgw2).mono ?_)
  rintro e w3 ⟨q, u, m, rfl, hq, hst2, hbl2, hlm, hg3⟩
  clear hbl2 haw hpl hpl2
  have hgw3 := hgw2.trans hg3
  obtain ⟨r, hr⟩ : ∃ r, r = repB (listF (lf l) 512) := ⟨_, rfl⟩
  have hrs : strOf (repGo (listF (lf l) 512)) = bsl r := by rw [hr]; exact repB_str _
  have hlL := listF_len (lf l) 512
  have hrl : r.length ≤ 10000 := by
    have := repB_len (listF (lf l) 512) (listF_le _ _)
    rw [hr]; omega
  have hback : ∀ l2 : List Bool, l2.length = l.length → rstL l2 r = l ∧ rstE l2 r = 0 := fun l2 h => by rw [hr]; exact rst_back l l2 hln h
  have hlist := fun (W : World) (q : Nat) (hs : LAt W q l) (hT : TabOk W) => list_any q _ _ W hs hT
  have hrpq := fun (W : World) (q : Nat) (hs : LAt W q l) (hT : TabOk W) (hT2 : tabT W) => report_any q _ _ W hs hT hT2
  have hrrp := fun (W : World) (hb : BL (p + 1) W v l) => rreport_any _ v l W hb hln
  rw [hrs] at hrpq hrrp
  obtain ⟨L, hL⟩ : ∃ L, L = listF (lf l) 512 := ⟨_, rfl⟩
  have hsame := fun (W : World) (v1 v2 : Value) (h1 : HasRow W 3 v1 L.length (ncells L)) (h2 : HasRow W 3 v2 L.length (ncells L)) => same_nums h1 h2 (by rw [hL]; omega)
  rw [← hL] at hlist
  have hcols := fun (W : World) (hs : LAt W p l) => cols_l p l W hs
  have hsp : LAt w3 p l := StAt.gr hst hg3
  have hb3 : BL (p + 1) w3 v l := hbl.gr hg3
  have hpw := lt_of_cell (StAt.cell0 hst)
  have hrsz := fun (W : World) (hs : LAt W q m) => resize_l q m (l.length : Nat) W hs hlm
  have hrst := fun (W : World) (l2 : List Bool) (h2 : l2.length ≤ 500) (hs : LAt W q l2) (hM : MaxOk W) => restore_l q l2 r W hs h2 (by omega) hM
  have HB := Lib.hid hback
  have HLn := Lib.hid hln
  have hcl : (rszL m (l.length : Nat)).length = l.length := by rw [rszL_len]; exact clN_self _ hln
  have hrse := hback _ hcl
  obtain ⟨m2, hm2⟩ : ∃ m2, m2 = rszL m (l.length : Nat) := ⟨_, rfl⟩
  rw [← hm2] at hcl hrsz hrse
  have HCL := Lib.hid hcl
  have HRS := Lib.hid hrse
  have hsq : LAt w3 q m := hst2
  clear hm2 hcl hrse hback hL hrs hlm hr hlL hst hbl hst2 hg3 hln
  have HG := Lib.hid hgw3
  obtain ⟨N, hN⟩ : ∃ N, N = l.length := ⟨_, rfl⟩
  rw [← hN] at hcols hrsz
  clear hN
  go_wp2_with fail
  (with_reducible refine (hrpq _ p hsp (HT.out.gr HG.out) (HT2.out.gr HG.out)).mono ?_)
  rintro e w4 ⟨rfl, hg4⟩
  have hg34 := hg4
  go_wp2_with fail
  (with_reducible refine (hrrp _ (hb3.gr hg4)).mono ?_)
  rintro e w5 ⟨rfl, hg5⟩
  have hg35 := hg4.trans hg5
  clear hg34 hg4 hg5
  go_wp2_with fail
  (with_reducible refine (hcols _ (LAt.gr hsp hg35)).mono ?_)
  rintro e w6 ⟨rfl, rfl⟩
  go_wp2_with fail
  (with_reducible refine (hrsz _ (LAt.gr hsq hg35)).mono ?_)
  rintro e w6 ⟨rfl, hq6, hu6⟩
  have hM6 : MaxOk w6 := HM.out.gr (Gr.upd (HG.out.trans hg35) hu6 (fun k hk => by simp at hk; subst hk; have := hgw2.size; omega))
  go_wp2_with fail
  (with_reducible refine (hrst _ m2 (by rw [HCL.out]; exact HLn.out) hq6 hM6).mono ?_)
  rintro e w7 ⟨rfl, hq7, hu7⟩
  rw [HRS.out.1] at hq7
  have hE := HRS.out.2
  rw [hE]
  clear hE
  have hu57 := hu6.trans hu7
  have hgw7 : Gr w w7 := Gr.upd (HG.out.trans hg35) hu57 (fun k hk => by simp at hk; subst hk; have := hgw2.size; omega)
  have hT7 := HT.out.gr hgw7
  have hTT7 := HT2.out.gr hgw7
  have hp7 : LAt w7 p l := hu57.blk (LAt.gr hsp hg35) (fun hm => by simp at hm; omega)
  clear hu6 hu7 hu57 hq6 hM6 hsq hsp hb3 hg35
  go_wp2_with (first
    | (go_at_call 19; (first
       | ((with_reducible refine (hlist _ q hq7 hT7).mono ?_); rintro e w8 ⟨v8, c8, rfl, hown8, hg8⟩)
       | ((with_reducible refine (hlist _ p (LAt.gr hp7 hg8) (hT7.gr hg8)).mono ?_); rintro e w9 ⟨v9, c9, rfl, hown9, hg9⟩)))
    | (go_at_call 18; (with_reducible refine (hsame _ _ _ (HasRow.gr (HasRow.of_own hown8) hg9) (HasRow.of_own hown9)).mono ?_); rintro e w10 ⟨rfl, hg10⟩; have hg710 := (hg8.trans hg9).trans hg10)
    | (go_at_call 25; (with_reducible refine (hrpq _ q (LAt.gr hq7 hg710) (hT7.gr hg710) (hTT7.gr hg710)).mono ?_); rintro e w11 ⟨rfl, hg11⟩))
  go_ret
  exact ⟨rfl, hgw7.trans (hg710.trans hg11)⟩

theorem tabOk_met {w : World} {rest : List (String × DataW Unit)} (h : laidMet Tryd.prog (("math/bits.deBruijn64tab", Rows.laid_math_bits_deBruijn64tab) :: rest) w) : TabOk w := by
  have ht := tabIs_head2 (g := 0) (k := .u8) (zs := Lib.deBruijn64tab.map fun (n : Nat) => (n : Int)) (by rfl) (by kernel_rfl) (by kernel_rfl) Tryd.underlying70 (by kernel_rfl) (by kernel_rfl) (by kernel_rfl) h
  intro j hj
  have := ht.cell (g := 0) (by kernel_rfl) j (by simpa using hj)
  rw [this]
  congr 2
  simp only [List.getD_eq_getElem?_getD, List.getElem?_map]
  rw [List.getElem?_eq_getElem hj]
  rfl
theorem tabT_met {w : World} {rest : List (String × DataW Unit)} (h : laidMet Tryd.prog (("internal/strconv.uint64pow10", Rows.laid_internal_strconv_uint64pow10) :: rest) w) : tabT w :=
  tabIs_head2 (g := 1) (by rfl) (by kernel_rfl) (by kernel_rfl) Tryd.underlying97 (by kernel_rfl) (by kernel_rfl) (by kernel_rfl) h
theorem report_laid {w : World} (h : laidMetH Tryd.prog Rows.tabsReportRow.laid w) : TabOk w ∧ tabT w := by
  unfold Rows.tabsReportRow at h
  rw [MakeChecks.laidMetH_plain _ _ _ (by kernel_rfl)] at h
  exact ⟨tabOk_met (laidMet_tail2 h), tabT_met (laidMet_tail2 (laidMet_tail2 h))⟩

theorem report_law (a a2 : Option Addr) (len cap len2 cap2 : Nat) (w : World) (hacts : IsStructs w a len 3 actF) (hacts2 : IsStructs w a2 len2 3 actF) (hlaid : laidMetH Tryd.prog Rows.tabsReportRow.laid w) (hsh : w.ShapedOpen Tryd.prog) :
    Calls Tryd.prog 8 #[.slice a len cap, .slice a2 len2 cap2] w fun e w' => e = .returned (.bool true) ∧ Gr w w' :=
  report_walk a a2 len cap len2 cap2 w hacts hacts2 (report_laid hlaid).1 (report_laid hlaid).2 (MaxOk.of hsh)
end Go.Proofs.YtjdmobildcgidaaDoor
