/-
  Tab stops: the document's Next and Back; numbers alike.
-/
import Derived.Test.YtjdmobildcgidaaDoorTbM
import Derived.Test.YtjdmobildcgidaaDoorTbH
namespace Go.Proofs.YtjdmobildcgidaaDoor
set_option linter.unusedSimpArgs false
set_option linter.unusedVariables false
open Go.RowKit
set_option linter.unusedVariables false

def tailF (f : Nat → Bool) (i k : Nat) : List Int := ((List.range' i k).filter f).map fun (c : Nat) => (c : Int)
theorem tailF_succ (f : Nat → Bool) (i k : Nat) : tailF f i (k + 1) = if f i = true then (i : Int) :: tailF f (i + 1) k else tailF f (i + 1) k := by
  unfold tailF
  rw [List.range'_succ, List.filter_cons]
  by_cases h : f i = true
  · rw [if_pos h, if_pos h, List.map_cons]
  · rw [if_neg h, if_neg h]
theorem zsF_tail (l : List Bool) (h : l.length ≤ 512) : zsF (lf l) = tailF (lf l) 0 l.length := by
  unfold zsF tailF
  rw [listF_end l 512 h]
  unfold listF
  rw [List.range_eq_range']
def headF (f : Nat → Bool) (i : Nat) : List Int := ((listF f i).map fun (c : Nat) => (c : Int)).reverse
theorem headF_succ (f : Nat → Bool) (i : Nat) : headF f (i + 1) = if f i = true then (i : Int) :: headF f i else headF f i := by
  unfold headF
  rw [listF_succ]
  by_cases h : f i = true
  · rw [if_pos h, if_pos h]; simp
  · rw [if_neg h, if_neg h]; simp
theorem zsF_head (l : List Bool) (h : l.length ≤ 512) : (zsF (lf l)).reverse = headF (lf l) l.length := by
  unfold zsF headF
  rw [listF_end l 512 h]

set_option maxRecDepth 100000 in
set_option maxHeartbeats 4000000 in
theorem rnext_any (B : Nat) (v : Value) (l : List Bool) (col nn : Int) (w : World) (h : BL B w v l) (hl : l.length ≤ 500) (hnb : nn ≤ 9223372036854775807) :
    Calls Tryd.prog 13 #[v, .int .i64 col, .int .i64 nn] w fun e w' => e = .returned (.int .i64 (nextR (l.length : Nat) (lf l) col nn)) ∧ Gr w w' := by
  obtain ⟨va, cap, rfl⟩ := h.1.form
  have hz := zsF_tail l (by omega)
  obtain ⟨R, hR⟩ : ∃ R, R = nextR (l.length : Nat) (lf l) col nn := ⟨_, rfl⟩
  rw [← hR]
  unfold nextR at hR
  rw [hz] at hR
  have HL := Lib.hid h
  clear h hz
  obtain ⟨N, hN⟩ : ∃ N, N = l.length := ⟨_, rfl⟩
  rw [← hN] at hl hR
  have HN := Lib.hid hN
  rw [← hN]
  clear hN
  by_cases hN0 : N = 0
  · have hr : R = 0 := by
      rw [hR, hN0]
      split
      · omega
      · simp [tailF, nthGt]; omega
    subst hr
    clear hR
    subst hN0
    go_enter Tryd.func13, Tryd.ntmps13
    go_wp2_with fail
    go_ret
    exact ⟨rfl, Gr.refl _⟩
  · have hNb : ((N : Int) == 0) = false := by simp; omega
    by_cases hn1 : nn < 1
    · rw [if_pos hn1] at hR
      by_cases hc0 : col < 0
      · have hr : R = 0 := by rw [hR]; omega
        subst hr
        clear hR
        go_enter Tryd.func13, Tryd.ntmps13
        go_wp2_with fail
        go_ret
        exact ⟨rfl, Gr.refl _⟩
      · by_cases hcN : (N : Int) ≤ col
        · have hr : R = (N : Int) - 1 := by rw [hR]; omega
          subst hr
          clear hR
          go_enter Tryd.func13, Tryd.ntmps13
          go_wp2_with fail
          go_ret
          exact ⟨rfl, Gr.refl _⟩
        · have hr : R = col := by rw [hR]; omega
          subst hr
          clear hR
          have hcN2 : ¬ (N : Int) ≤ R := hcN
          go_enter Tryd.func13, Tryd.ntmps13
          go_wp2_with fail
          go_ret
          exact ⟨rfl, Gr.refl _⟩
    · rw [if_neg hn1] at hR
      have hn2 : 1 ≤ nn := by omega
      have HR := Lib.hid hR
      clear hR
      go_enter Tryd.func13, Tryd.ntmps13
      go_wp2_with fail
      go_loopw [2, 7] (fun nv iv wr => ∃ (cv : Int) (i : Nat), nv = .int .i64 cv ∧ iv = .int .i64 (i : Int) ∧ i ≤ N ∧ 1 ≤ cv ∧ cv ≤ 9223372036854775807 ∧ Hid (R = (nthGt (tailF (lf l) i (N - i)) col cv).getD (max 0 ((N : Int) - 1))) ∧ Gr w wr) (fun _ iv _ => N - (intOf iv).toNat)
      case atStart => exact ⟨nn, 0, rfl, rfl, Nat.zero_le _, hn2, hnb, HR, by (repeat (first | with_reducible exact Gr.refl _ | with_reducible assumption | with_reducible refine Gr.setCell ?_ (by simp; try omega) _ | with_reducible refine Gr.alloc ?_ _ | with_reducible refine Gr.drew ?_ | with_reducible refine Gr.drewN ?_ _ | with_reducible refine Gr.trans ?_ (by assumption)))⟩
      case round =>
        obtain ⟨cv, i, rfl, rfl, hi, hcv1, hcv2, HK, hgr⟩ := hrel
        by_cases hlt : i < N
        · have hiN : (i : Int) < (N : Int) := by omega
          have hiB : (i : Int) < 1000 := by omega
          obtain ⟨g, cap2, hv, hc⟩ := (HL.out.gr hgr).at_ (k := i) (by have := HN.out; omega)
          injection hv with e1 e2 e3
          subst e1
          obtain ⟨k, hk⟩ : ∃ k, N - i = k + 1 := ⟨N - i - 1, by omega⟩
          have hk2 : N - (i + 1) = k := by omega
          have hK := HK.out
          rw [hk, tailF_succ] at hK
          obtain ⟨b, hb⟩ : ∃ b, b = l.getD i false := ⟨_, rfl⟩
          have hfb : lf l i = b := by rw [hb]; rfl
          rw [← hb] at hc
          rw [hfb] at hK
          have HK2 := Lib.hid hk2
          clear hfb hb e2 e3 hk HK hk2
          by_cases hci : col < (i : Int)
          · cases b with
            | true =>
              rw [if_pos rfl, nthGt, if_pos hci] at hK
              by_cases h1n : cv = 1
              · subst h1n
                rw [if_pos rfl] at hK
                have hres : R = (i : Int) := hK
                have HRES := Lib.hid hres
                clear hres hK
                go_wp2_with fail
                go_ret
                exact ⟨by rw [HRES.out]; rfl, hgr⟩
              · rw [if_neg h1n] at hK
                have h1b : (cv - 1 == 0) = false := by simp; omega
                have HK3 := Lib.hid hK
                clear hK
                go_wp2_with fail
                go_roundw
                case rel => exact ⟨cv - 1, i + 1, rfl, by go_num, by omega, by omega, by omega, Lib.hid (by rw [HK2.out]; exact HK3.out), hgr⟩
                case measure => simp [intOf]; omega
            | false =>
              rw [if_neg (by decide)] at hK
              have HK3 := Lib.hid hK
              clear hK
              go_wp2_with fail
              go_roundw
              case rel => exact ⟨cv, i + 1, rfl, by go_num, by omega, by omega, by omega, Lib.hid (by rw [HK2.out]; exact HK3.out), hgr⟩
              case measure => simp [intOf]; omega
          · have hK3 : R = (nthGt (tailF (lf l) (i + 1) k) col cv).getD (max 0 ((N : Int) - 1)) := by
              rw [hK]
              cases b with
              | true => rw [if_pos rfl, nthGt, if_neg hci]
              | false => rw [if_neg (by decide)]
            have HK3 := Lib.hid hK3
            clear hK hK3
            go_wp2_with fail
            go_roundw
            case rel => exact ⟨cv, i + 1, rfl, by go_num, by omega, by omega, by omega, Lib.hid (by rw [HK2.out]; exact HK3.out), hgr⟩
            case measure => simp [intOf]; omega
        · obtain rfl : i = N := by omega
          have hres : R = (i : Int) - 1 := by
            rw [HK.out, Nat.sub_self]
            simp only [tailF, List.range'_zero, List.filter_nil, List.map_nil, nthGt, Option.getD_none]
            omega
          have HRES := Lib.hid hres
          clear hres HK
          go_wp2_with fail
          go_ret
          exact ⟨by rw [HRES.out]; rfl, hgr⟩

set_option maxRecDepth 100000 in
set_option maxHeartbeats 4000000 in
theorem rback_any (B : Nat) (v : Value) (l : List Bool) (col nn : Int) (w : World) (h : BL B w v l) (hl : l.length ≤ 500) (hnb : nn ≤ 9223372036854775807) :
    Calls Tryd.prog 14 #[v, .int .i64 col, .int .i64 nn] w fun e w' => e = .returned (.int .i64 (backR (l.length : Nat) (lf l) col nn)) ∧ Gr w w' := by
  by_cases hn1 : nn < 1
  · have hx := rnext_any B v l col nn w h hl hnb
    have e : nextR (l.length : Nat) (lf l) col nn = backR (l.length : Nat) (lf l) col nn := by unfold nextR backR; rw [if_pos hn1, if_pos hn1]
    rw [e] at hx
    obtain ⟨va, cap, rfl⟩ := h.1.form
    obtain ⟨R, hR⟩ : ∃ R, R = backR (l.length : Nat) (lf l) col nn := ⟨_, rfl⟩
    rw [← hR] at hx ⊢
    clear e hR h
    go_enter Tryd.func14, Tryd.ntmps14
    go_wp2_with (first
      | (go_at_call 13; (with_reducible refine hx.mono ?_); rintro e w1 ⟨rfl, hg1⟩))
    go_ret
    exact ⟨rfl, hg1⟩
  · obtain ⟨va, cap, rfl⟩ := h.1.form
    have hz := zsF_head l (by omega)
    obtain ⟨R, hR⟩ : ∃ R, R = backR (l.length : Nat) (lf l) col nn := ⟨_, rfl⟩
    rw [← hR]
    unfold backR at hR
    rw [if_neg hn1] at hR
    unfold backI at hR
    rw [hz] at hR
    have HL := Lib.hid h
    clear h hz
    obtain ⟨N, hN⟩ : ∃ N, N = l.length := ⟨_, rfl⟩
    rw [← hN] at hl hR
    have HN := Lib.hid hN
    rw [← hN]
    clear hN
    have hn2 : 1 ≤ nn := by omega
    have HR := Lib.hid hR
    clear hR
    go_enter Tryd.func14, Tryd.ntmps14
    go_wp2_with fail
    go_loopw [2, 7] (fun nv iv wr => ∃ (cv : Int) (i : Nat), nv = .int .i64 cv ∧ iv = .int .i64 ((i : Int) - 1) ∧ i ≤ N ∧ 1 ≤ cv ∧ cv ≤ 9223372036854775807 ∧ Hid (R = (nthLt (headF (lf l) i) col cv).getD 0) ∧ Gr w wr) (fun _ iv _ => (intOf iv + 1).toNat)
    case atStart => exact ⟨nn, N, rfl, rfl, Nat.le_refl _, hn2, hnb, HR, by (repeat (first | with_reducible exact Gr.refl _ | with_reducible assumption | with_reducible refine Gr.setCell ?_ (by simp; try omega) _ | with_reducible refine Gr.alloc ?_ _ | with_reducible refine Gr.drew ?_ | with_reducible refine Gr.drewN ?_ _ | with_reducible refine Gr.trans ?_ (by assumption)))⟩
    case round =>
      obtain ⟨cv, i1, rfl, rfl, hi, hcv1, hcv2, HK, hgr⟩ := hrel
      rcases Nat.eq_zero_or_pos i1 with h0 | h0
      · subst h0
        have hres : R = 0 := by rw [HK.out]; simp [headF, listF, nthLt]
        have HRES := Lib.hid hres
        clear hres HK
        go_wp2_with fail
        go_ret
        exact ⟨by rw [HRES.out]; rfl, hgr⟩
      · obtain ⟨i, rfl⟩ : ∃ i, i1 = i + 1 := ⟨i1 - 1, by omega⟩
        have hci1 : (((i + 1 : Nat) : Int) - 1) = (i : Int) := by omega
        rw [hci1]
        have HCI := Lib.hid hci1
        clear hci1 h0
        have hi0 : (0 : Int) ≤ (i : Int) := by omega
        have hiN : (i : Int) < (N : Int) := by omega
        have hiB : (i : Int) < 1000 := by omega
        obtain ⟨g, cap2, hv, hc⟩ := (HL.out.gr hgr).at_ (k := i) (by have := HN.out; omega)
        injection hv with e1 e2 e3
        subst e1
        have hK := HK.out
        rw [headF_succ] at hK
        obtain ⟨b, hb⟩ : ∃ b, b = l.getD i false := ⟨_, rfl⟩
        have hfb : lf l i = b := by rw [hb]; rfl
        rw [← hb] at hc
        rw [hfb] at hK
        clear hfb hb e2 e3 HK
        by_cases hci : (i : Int) < col
        · cases b with
          | true =>
            rw [if_pos rfl, nthLt, if_pos hci] at hK
            by_cases h1n : cv = 1
            · subst h1n
              rw [if_pos rfl] at hK
              have hres : R = (i : Int) := hK
              have HRES := Lib.hid hres
              clear hres hK
              go_wp2_with fail
              go_ret
              exact ⟨by rw [HRES.out]; rfl, hgr⟩
            · rw [if_neg h1n] at hK
              have h1b : (cv - 1 == 0) = false := by simp; omega
              have HK3 := Lib.hid hK
              clear hK
              go_wp2_with fail
              go_roundw
              case rel => exact ⟨cv - 1, i, rfl, by go_num, by omega, by omega, by omega, HK3, hgr⟩
              case measure => simp [intOf]
          | false =>
            rw [if_neg (by decide)] at hK
            have HK3 := Lib.hid hK
            clear hK
            go_wp2_with fail
            go_roundw
            case rel => exact ⟨cv, i, rfl, by go_num, by omega, by omega, by omega, HK3, hgr⟩
            case measure => simp [intOf]
        · have hK3 : R = (nthLt (headF (lf l) i) col cv).getD 0 := by
            rw [hK]
            cases b with
            | true => rw [if_pos rfl, nthLt, if_neg hci]
            | false => rw [if_neg (by decide)]
          have HK3 := Lib.hid hK3
          clear hK hK3
          go_wp2_with fail
          go_roundw
          case rel => exact ⟨cv, i, rfl, by go_num, by omega, by omega, by omega, HK3, hgr⟩
          case measure => simp [intOf]

theorem ncells_at {l : List Nat} {k : Nat} {u : Value} (h : (ncells l)[k]? = some u) : u = .int .i64 (l.getD k 0 : Nat) := by
  simp only [ncells, List.getElem?_map] at h
  rcases hx : l[k]? with _ | x
  · rw [hx] at h; cases h
  · rw [hx] at h; simp at h; simp [List.getD, hx, h]
set_option maxRecDepth 100000 in
set_option maxHeartbeats 1000000 in
/-- Two rows of the same numbers. -/
theorem same_nums {w : World} {v1 v2 : Value} {l : List Nat} (h1 : HasRow w 3 v1 l.length (ncells l)) (h2 : HasRow w 3 v2 l.length (ncells l)) (hn : l.length ≤ 100000) :
    Calls Tryd.prog 18 #[v1, v2] w fun e w' => e = .returned (.bool true) ∧ Gr w w' := by
  obtain ⟨a1, c1, rfl⟩ := h1.form
  obtain ⟨a2, c2, rfl⟩ := h2.form
  go_enter Tryd.func18, Tryd.ntmps18
  go_wp2_with fail
  go_loopw [5] (fun i wr => ∃ k : Nat, k ≤ l.length ∧ i = .int .i64 k ∧ Gr w wr) (fun i _ => l.length - (intOf i).toNat)
  case atStart => exact ⟨0, Nat.zero_le _, rfl, .refl _⟩
  case round =>
    obtain ⟨k, hk, rfl, hg⟩ := hrel
    by_cases hlt : k < l.length
    · obtain ⟨g1, p1, u1, hv1, hu1, hc1⟩ := (h1.gr hg).at_ hlt
      obtain ⟨g2, p2, u2, hv2, hu2, hc2⟩ := (h2.gr hg).at_ hlt
      injection hv1 with e1 e2 e3
      injection hv2 with e4 e5 e6
      subst e1; subst e4
      have hu1 := ncells_at hu1
      have hu2 := ncells_at hu2
      subst hu1; subst hu2
      obtain ⟨x, hx⟩ : ∃ x, x = l.getD k 0 := ⟨_, rfl⟩
      rw [← hx] at hc1 hc2
      have hkn : (k : Int) < (l.length : Int) := by omega
      have k0 : (0 : Int) ≤ (k : Int) := by omega
      clear hx h1 h2 hu1 hu2 e2 e3 e5 e6
      go_wp2_with fail
      go_quiet (fail)
      go_wp2_with fail
      go_roundw
      case rel => exact ⟨k + 1, by omega, by go_num, by (repeat (first | with_reducible exact Gr.refl _ | with_reducible assumption | with_reducible refine Gr.setCell ?_ (by simp; try omega) _ | with_reducible refine Gr.alloc ?_ _ | with_reducible refine Gr.drew ?_ | with_reducible refine Gr.drewN ?_ _ | with_reducible refine Gr.trans ?_ (by assumption)))⟩
      case measure => simp [intOf]; omega
    · have hkn : ¬ (k : Int) < (l.length : Int) := by omega
      clear h1 h2
      go_wp2_with fail
      go_ret
      exact ⟨rfl, hg⟩
end Go.Proofs.YtjdmobildcgidaaDoor
