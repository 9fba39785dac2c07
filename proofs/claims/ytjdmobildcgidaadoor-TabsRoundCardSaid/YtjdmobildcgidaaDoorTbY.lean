/-
  Tab stops: the law TabsRound.
-/
import Derived.Test.YtjdmobildcgidaaDoorTbW
import Derived.Deep.DeepCutAuto
namespace Go.Proofs.YtjdmobildcgidaaDoor
set_option linter.unusedSimpArgs false
set_option linter.unusedVariables false
open Go.RowKit
set_option linter.unusedVariables false

theorem nthGt_one : ∀ (l : List Int) (col : Int), nthGt l col 1 = l.find? (fun c => decide (col < c))
  | [], _ => rfl
  | x :: l, col => by
    unfold nthGt
    by_cases h : col < x
    · rw [if_pos h, if_pos rfl, List.find?_cons_of_pos (by simpa using h)]
    · rw [if_neg h, List.find?_cons_of_neg (by simpa using h), nthGt_one l col]
theorem nthLt_one : ∀ (l : List Int) (col : Int), nthLt l col 1 = l.find? (fun c => decide (c < col))
  | [], _ => rfl
  | x :: l, col => by
    unfold nthLt
    by_cases h : x < col
    · rw [if_pos h, if_pos rfl, List.find?_cons_of_pos (by simpa using h)]
    · rw [if_neg h, List.find?_cons_of_neg (by simpa using h), nthLt_one l col]
theorem find_first : ∀ (l : List Int) (p : Int → Bool) (c : Int), l.Pairwise (· < ·) → l.find? p = some c → ∀ x ∈ l, p x = true → c ≤ x
  | y :: l, p, c, hs, h, x, hx, hp => by
    rw [List.pairwise_cons] at hs
    by_cases hy : p y = true
    · rw [List.find?_cons_of_pos hy] at h
      injection h with h; subst h
      rcases List.mem_cons.1 hx with rfl | hx
      · exact Int.le_refl _
      · exact Int.le_of_lt (hs.1 x hx)
    · rw [List.find?_cons_of_neg hy] at h
      rcases List.mem_cons.1 hx with rfl | hx
      · exact absurd hp hy
      · exact find_first l p c hs.2 h x hx hp
theorem find_last : ∀ (l : List Int) (p : Int → Bool) (c : Int), l.Pairwise (fun a b => b < a) → l.find? p = some c → ∀ x ∈ l, p x = true → x ≤ c
  | y :: l, p, c, hs, h, x, hx, hp => by
    rw [List.pairwise_cons] at hs
    by_cases hy : p y = true
    · rw [List.find?_cons_of_pos hy] at h
      injection h with h; subst h
      rcases List.mem_cons.1 hx with rfl | hx
      · exact Int.le_refl _
      · exact Int.le_of_lt (hs.1 x hx)
    · rw [List.find?_cons_of_neg hy] at h
      rcases List.mem_cons.1 hx with rfl | hx
      · exact absurd hp hy
      · exact find_last l p c hs.2 h x hx hp
theorem zsF_sorted (l : List Bool) (h : l.length ≤ 500) : (zsF (lf l)).Pairwise (· < ·) := by
  rw [zsF_tail l (by omega)]
  unfold tailF
  rw [List.pairwise_map]
  refine List.Pairwise.imp (fun {a b} h => ?_) (List.Pairwise.filter _ (List.pairwise_lt_range' (s := 0) (n := l.length) (step := 1)))
  show (a : Int) < (b : Int)
  omega
theorem zsF_mem (l : List Bool) (h : l.length ≤ 500) (c : Nat) (hc : lf l c = true) : (c : Int) ∈ zsF (lf l) := by
  have hlt : c < l.length := by
    apply Classical.byContradiction; intro hn
    rw [lf_out l c (by omega)] at hc; cases hc
  rw [zsF_tail l (by omega)]
  unfold tailF
  exact List.mem_map.2 ⟨c, List.mem_filter.2 ⟨by rw [List.mem_range'_1]; omega, hc⟩, rfl⟩
theorem mem_zsF (l : List Bool) (h : l.length ≤ 500) (x : Int) (hx : x ∈ zsF (lf l)) : ∃ c : Nat, x = c ∧ lf l c = true := by
  rw [zsF_tail l (by omega)] at hx
  unfold tailF at hx
  obtain ⟨j, hj, rfl⟩ := List.mem_map.1 hx
  exact ⟨j, rfl, (List.mem_filter.1 hj).2⟩
/-- Between a stop and the next one there is none. -/
theorem next_none (l : List Bool) (h : l.length ≤ 500) (col c : Nat) (h1 : col < c) (h2 : (c : Int) < nextR (l.length : Nat) (lf l) col 1) : lf l c = false := by
  apply Classical.byContradiction
  intro hn
  have hc : lf l c = true := by simpa using hn
  have hm := zsF_mem l h c hc
  unfold nextR at h2
  rw [if_neg (by omega), nthGt_one] at h2
  cases hx : (zsF (lf l)).find? (fun c => decide ((col : Int) < c)) with
  | none =>
    rw [List.find?_eq_none] at hx
    have := hx _ hm
    simp at this; omega
  | some y =>
    rw [hx] at h2
    have := find_first _ _ y (zsF_sorted l h) hx _ hm (by simpa using h1)
    simp only [Option.getD_some] at h2
    omega
/-- From the next stop one comes back. -/
theorem back_next (l : List Bool) (h : l.length ≤ 500) (col : Nat) (h0 : lf l col = true) (m : Nat) (hm : (m : Int) = nextR (l.length : Nat) (lf l) col 1) (hs : lf l m = true) (hne : m ≠ col) : backR (l.length : Nat) (lf l) m 1 = col := by
  have hlt : col < l.length := by
    apply Classical.byContradiction; intro hn
    rw [lf_out l col (by omega)] at h0; cases h0
  have hcm : col < m := by
    unfold nextR at hm
    rw [if_neg (by omega), nthGt_one] at hm
    cases hx : (zsF (lf l)).find? (fun c => decide ((col : Int) < c)) with
    | none => rw [hx] at hm; simp only [Option.getD_none] at hm; omega
    | some y =>
      have hp := List.find?_some hx
      rw [hx] at hm
      simp only [Option.getD_some, decide_eq_true_eq] at hm hp
      omega
  have hmc := zsF_mem l h col h0
  unfold backR
  rw [if_neg (by omega)]
  unfold backI
  rw [nthLt_one]
  cases hx : (zsF (lf l)).reverse.find? (fun c => decide (c < (m : Int))) with
  | none =>
    rw [List.find?_eq_none] at hx
    have := hx _ (List.mem_reverse.2 hmc)
    simp at this; omega
  | some y =>
    have hp := List.find?_some hx
    have hy := List.mem_of_find?_eq_some hx
    have hl := find_last _ _ y (by rw [List.pairwise_reverse]; exact zsF_sorted l h) hx _ (List.mem_reverse.2 hmc) (by simpa using hcm)
    obtain ⟨c, rfl, hc⟩ := mem_zsF l h y (List.mem_reverse.1 hy)
    simp only [Option.getD_some, decide_eq_true_eq] at hp ⊢
    have : c = col := by
      apply Classical.byContradiction; intro hn
      have := next_none l h col c (by omega) (by rw [← hm]; exact hp)
      rw [this] at hc; cases hc
    rw [this]

theorem has_lf (p : Nat) (l : List Bool) (c : Nat) (w : World) (h : LAt w p l) (hl : l.length ≤ 500) (hc : c < l.length) : Calls Tryd.prog 15 #[.pointer (some ⟨p, 0, none⟩), .int .i64 (c : Int)] w fun e w' => e = .returned (.bool (lf l c)) ∧ w = w' :=
  has_in p l.length c (lf l) w h hl hc
set_option maxRecDepth 100000 in
set_option maxHeartbeats 4000000 in
theorem round_walk (a : Option Addr) (len cap : Nat) (col : Int) (w : World) (hacts : IsStructs w a len 3 actF) (hcw : (Lit.int .i64 col).wf = true) (hT : TabOk w) (hM : MaxOk w) :
    Calls Tryd.prog 4 #[.slice a len cap, .int .i64 col] w fun e w' => e = .returned (.bool true) ∧ Gr w w' := by
  have haw := awake_any w hT
  have hpl := fun (W : World) (hg : Gr w W) => played_any 50 a len cap W (hacts.gr hg) (hT.gr hg) (hM.gr hg)
  have HT := Lib.hid hT
  clear hacts hT hM
  go_enter Tryd.func4, Tryd.ntmps4
  go_upto_region 6 with (first
    | (go_at_call 9; (with_reducible refine haw.mono ?_); rintro e w1 ⟨rfl, hg1⟩)
    | (go_at_call 10; (with_reducible refine (hpl _ hg1).mono ?_); rintro e w2 ⟨p, v, l, rfl, hp, hst, hbl, hln, hg2⟩))
  have hgw2 := hg1.trans hg2
  have hT2 := HT.out.gr hgw2
  obtain ⟨va, cap', rfl⟩ := hbl.1.form
  clear haw hpl hg2 hp
  by_cases hc0 : col < 0
  · clear hcw hbl hst
    go_wp2_with fail
    go_ret
    exact ⟨rfl, hgw2⟩
  obtain ⟨c, rfl⟩ : ∃ c : Nat, col = c := ⟨col.toNat, by omega⟩
  by_cases hcn : c < l.length
  · obtain ⟨g, cap2, hv, hcell⟩ := hbl.at_ hcn
    injection hv with e1 e2 e3
    subst e1; subst e3; clear e2
    have hcni : (c : Int) < (l.length : Nat) := by omega
    cases hb : l.getD c false with
    | false =>
      rw [hb] at hcell
      clear hb hbl hst
      obtain ⟨N, hN⟩ : ∃ N, N = l.length := ⟨_, rfl⟩
      rw [← hN] at hcn hcni ⊢
      clear hN hln
      go_wp2_with fail
      go_ret
      exact ⟨rfl, hgw2⟩
    | true =>
      rw [hb] at hcell
      have hlc : lf l c = true := hb
      obtain ⟨i1, i2⟩ := nextR_in l c 1 hln
      obtain ⟨m, hm⟩ : ∃ m : Nat, (m : Int) = nextR (l.length : Nat) (lf l) c 1 := ⟨(nextR (l.length : Nat) (lf l) c 1).toNat, by omega⟩
      have hmN : m < l.length := by have := i2 (by omega); omega
      have hbd : (0 : Int) ≤ (l.length : Nat) ∧ ((l.length : Nat) : Int) ≤ 500 := by omega
      have hnx := fun (W : World) (hg : Gr w2 W) => next_any p _ c 1 _ W (StAt.gr hst hg) hbd (hT2.gr hg) (by omega)
      rw [← hm] at hnx
      have hhas := fun (k : Nat) (hk : k < l.length) (W : World) (hg : Gr w2 W) => has_lf p l k W (StAt.gr hst hg) hln hk
      have hnone : ∀ k : Nat, c < k → k < m → lf l k = false := fun k h1 h2 => next_none l hln c k h1 (by rw [← hm]; omega)
      have hbk := fun (W : World) (hg : Gr w2 W) => back_any p _ m 1 _ W (StAt.gr hst hg) hbd (hT2.gr hg) (by omega)
      have hback : lf l m = true → m ≠ c → backR (l.length : Nat) (lf l) m 1 = c := fun h1 h2 => back_next l hln c hlc m hm h1 h2
      have HH := Lib.hid hhas
      have HN := Lib.hid hnone
      have HB := Lib.hid hback
      have HK := Lib.hid hbk
      have hmi : m ≤ 500 := by omega
      have hci : c ≤ 500 := by omega
      have HMN := Lib.hid hmN
      clear hhas hnone hback hbk hb hlc i1 i2 hm hbd hbl hst hT2 hmN
      obtain ⟨N, hN⟩ : ∃ N, N = l.length := ⟨_, rfl⟩
      have HL := Lib.hid hN
      rw [← hN] at hcn hcni ⊢
      clear hN hln
      go_wp2_with (go_at_call 11; (with_reducible refine (hnx _ ?_).mono ?_); ((repeat (first | with_reducible exact Gr.refl _ | with_reducible assumption | with_reducible refine Gr.setCell ?_ (by simp; try omega) _ | with_reducible refine Gr.alloc ?_ _ | with_reducible refine Gr.drew ?_ | with_reducible refine Gr.drewN ?_ _ | with_reducible refine Gr.trans ?_ (by assumption)))); rintro e w3 ⟨rfl, hg3⟩)
      clear hnx hcell
      go_loopw [9] (fun iv wr => ∃ k : Nat, iv = .int .i64 (k : Int) ∧ c < k ∧ k ≤ 501 ∧ Gr w2 wr) (fun iv _ => m - (intOf iv).toNat)
      case atStart => exact ⟨c + 1, by go_num, by omega, by omega, hg3⟩
      case round =>
        obtain ⟨k, rfl, hk1, hk2, hgr⟩ := hrel
        by_cases hlt : k < m
        · have hlti : (k : Int) < (m : Int) := by omega
          have hcall := HH.out k (by have := HMN.out; omega) wr hgr
          rw [HN.out k hk1 hlt] at hcall
          go_wp2_with (go_at_call 15; (with_reducible refine hcall.mono ?_); rintro e w4 ⟨rfl, rfl⟩)
          go_roundw
          case rel => exact ⟨k + 1, by go_num, by omega, by omega, hgr⟩
          case measure => simp [intOf]; omega
        · have hlti : ¬ (k : Int) < (m : Int) := by omega
          have hcall := HH.out m HMN.out wr hgr
          cases hbm : lf l m with
          | false =>
            rw [hbm] at hcall
            clear hbm
            go_wp2_with (go_at_call 15; (with_reducible refine hcall.mono ?_); rintro e w4 ⟨rfl, rfl⟩)
            go_ret
            exact ⟨rfl, hgw2.trans hgr⟩
          | true =>
            rw [hbm] at hcall
            by_cases hmc : m = c
            · subst hmc
              clear hbm
              go_wp2_with (go_at_call 15; (with_reducible refine hcall.mono ?_); rintro e w4 ⟨rfl, rfl⟩)
              go_ret
              exact ⟨rfl, hgw2.trans hgr⟩
            · have hcb := HK.out wr hgr
              rw [HB.out hbm hmc] at hcb
              have hmcb : ((m : Int) == (c : Int)) = false := by simp; omega
              clear hbm
              go_wp2_with (first
                | (go_at_call 15; (with_reducible refine hcall.mono ?_); rintro e w4 ⟨rfl, rfl⟩)
                | (go_at_call 12; (with_reducible refine hcb.mono ?_); rintro e w5 ⟨rfl, hg5⟩))
              go_ret
              exact ⟨rfl, hgw2.trans (hgr.trans hg5)⟩
  · have hcni : ¬ (c : Int) < (l.length : Nat) := by omega
    obtain ⟨N, hN⟩ : ∃ N, N = l.length := ⟨_, rfl⟩
    rw [← hN] at hcn hcni ⊢
    clear hN hln hbl hst hcw
    go_wp2_with fail
    go_ret
    exact ⟨rfl, hgw2⟩

theorem round_law (a : Option Addr) (len cap : Nat) (col : Int) (w : World) (hacts : IsStructs w a len 3 actF) (hcw : (Lit.int .i64 col).wf = true) (hlaid : laidMetH Tryd.prog Rows.tabsRoundRow.laid w) (hsh : w.ShapedOpen Tryd.prog) :
    Calls Tryd.prog 4 #[.slice a len cap, .int .i64 col] w fun e w' => e = .returned (.bool true) ∧ Gr w w' :=
  round_walk a len cap col w hacts hcw (tabOk_of (by kernel_rfl) hlaid) (MaxOk.of hsh)
end Go.Proofs.YtjdmobildcgidaaDoor
