/-
  Tab stops: Back and Next of any number.
-/
import Derived.Test.YtjdmobildcgidaaDoorTbG
namespace Go.Proofs.YtjdmobildcgidaaDoor
set_option linter.unusedSimpArgs false
set_option linter.unusedVariables false
open Go.RowKit Go.Shelf
set_option linter.unusedVariables false
attribute [local go_sem] Oper.semAt_some

/-- What Back answers. -/
def backR (N : Int) (f : Nat → Bool) (col n : Int) : Int := if n < 1 then max 0 (min col (N - 1)) else backI (zsF f) col n
set_option maxRecDepth 100000 in
set_option maxHeartbeats 2000000 in
theorem back_any (p : Nat) (N : Int) (col nn : Int) (f : Nat → Bool) (w : World) (h : StAt w p N f) (hN : 0 ≤ N ∧ N ≤ 500) (hT : TabOk w) (hnb : nn ≤ 9223372036854775807) :
    Calls Tryd.prog 12 #[.pointer (some ⟨p, 0, none⟩), .int .i64 col, .int .i64 nn] w fun e w' => e = .returned (.int .i64 (backR N f col nn)) ∧ Gr w w' := by
  by_cases hn1 : 1 ≤ nn
  · have e : backR N f col nn = backI (zsF f) col nn := by unfold backR; rw [if_neg (by omega)]
    rw [e]
    exact back_loop p N col nn f w h hT hn1 hnb
  · obtain ⟨R, hR⟩ : ∃ R, R = max 0 (min col (N - 1)) := ⟨_, rfl⟩
    have e : backR N f col nn = R := by unfold backR; rw [if_pos (by omega), hR]
    rw [e]
    clear e
    have hn2 : nn < 1 := by omega
    have hw := fun (w' : World) (hg : Gr w w') => within_any p N col f w' (h.gr hg) hN
    rw [← hR] at hw
    clear hR
    have bC := Boxed.new w 3 (.int .i64 col)
    have bN := Boxed.new (w.alloc (.cells #[.int .i64 col] 3)) 3 (.int .i64 nn)
    have bR := Boxed.new ((w.alloc (.cells #[.int .i64 col] 3)).alloc (.cells #[.int .i64 nn] 3)) 3 (.int .i64 0)
    go_enter Tryd.func12, Tryd.ntmps12
    go_wp2_with (first
      | (go_at_call 32; (with_reducible refine (hw _ ?_).mono ?_); (exact (((Gr.refl w).alloc _).alloc _).alloc _); rintro e w1 ⟨rfl, rfl⟩))
    have hc5 := (Boxed.new ((w.alloc (.cells #[.int .i64 col] 3)).alloc (.cells #[.int .i64 nn] 3)) 3 (.int .i64 R)).cell
    simp only [World.size_alloc] at hc5
    refine bodyPost_ret (v := .int .i64 R) ?_ rfl ⟨rfl, (((Gr.refl w).alloc _).alloc _).alloc _⟩
    simp [results, Tryd.f12, go_sem, hc5]

/-- The n-th of numbers that are greater. -/
def nthGt : List Int → Int → Int → Option Int
  | [], _, _ => none
  | c :: l, col, n => if col < c then (if n = 1 then some c else nthGt l col (n - 1)) else nthGt l col n
def nextR (N : Int) (f : Nat → Bool) (col n : Int) : Int := if n < 1 then max 0 (min col (N - 1)) else (nthGt (zsF f) col n).getD (max 0 (N - 1))
set_option maxRecDepth 100000 in
set_option maxHeartbeats 2000000 in
theorem next_any (p : Nat) (N : Int) (col nn : Int) (f : Nat → Bool) (w : World) (h : StAt w p N f) (hN : 0 ≤ N ∧ N ≤ 500) (hT : TabOk w) (hnb : nn ≤ 9223372036854775807) :
    Calls Tryd.prog 11 #[.pointer (some ⟨p, 0, none⟩), .int .i64 col, .int .i64 nn] w fun e w' => e = .returned (.int .i64 (nextR N f col nn)) ∧ Gr w w' := by
  obtain ⟨hN0, hN1⟩ := hN
  by_cases hn1 : 1 ≤ nn
  · obtain ⟨R, hR⟩ : ∃ R, R = nextR N f col nn := ⟨_, rfl⟩
    rw [← hR]
    unfold nextR at hR
    rw [if_neg (by omega)] at hR
    have hl := list_any p N f w h hT
    obtain ⟨zs, hzs⟩ : ∃ zs, zs = zsF f := ⟨_, rfl⟩
    rw [← hzs] at hR
    have HZS := Lib.hid hzs
    have HR := Lib.hid hR
    clear hR hzs
    go_enter Tryd.func11, Tryd.ntmps11
    go_wp2_with (first
      | (go_at_call 19; (with_reducible refine hl.mono ?_); rintro e w1 ⟨va, cap, rfl, hown, hg1⟩))
    obtain ⟨b, hbB, hbl, hIV⟩ := intsV_of hown (Gr.refl w1)
    rw [← HZS.out] at hIV
    have hzl : zs.length ≤ 512 := by rw [HZS.out, zsF_len]; exact listF_len f 512
    have hml : (listF f 512).length = zs.length := by rw [HZS.out, zsF_len]
    obtain ⟨m, hm⟩ : ∃ m, m = (listF f 512).length := ⟨_, rfl⟩
    rw [← hm] at hIV hml ⊢
    clear hm hown hl
    have c0 := (h.gr hg1).cell0
    subst hml
    go_loopw [2, 17, 6, 8] (fun nv iv _ _ wr => ∃ (cv : Int) (k : Nat), nv = .int .i64 cv ∧ iv = .int .i64 (k : Int) ∧ k ≤ zs.length ∧ 1 ≤ cv ∧ cv ≤ 9223372036854775807 ∧ Hid (R = (nthGt (zs.drop k) col cv).getD (max 0 (N - 1))) ∧ wr = w1) (fun _ iv _ _ _ => zs.length - (intOf iv).toNat)
    case atStart => exact ⟨nn, 0, rfl, rfl, by omega, hn1, hnb, Lib.hid (by rw [List.drop_zero]; exact HR.out), rfl⟩
    case round =>
      obtain ⟨cv, k, rfl, rfl, hk, hcv1, hcv2, HK, rfl⟩ := hrel
      by_cases hlt : k < zs.length
      · rcases hIV with ⟨_, hz⟩ | ⟨off, cap', hv, hb, hcs⟩
        · rw [hz] at hlt; cases hlt
        · injection hv with hv1 hv2 hv3
          subst hv1 hv3
          have hcx := hcs k hlt
          obtain ⟨x, hx⟩ : ∃ x, x = zs[k]?.getD 0 := ⟨_, rfl⟩
          rw [← hx] at hcx
          have hdr : zs.drop k = x :: zs.drop (k + 1) := by rw [List.drop_eq_getElem_cons hlt, hx, List.getElem?_eq_getElem hlt]; rfl
          have hkI : (k : Int) < (zs.length : Int) := by omega
          have hkB : (k : Int) < 1000 := by omega
          rw [hdr] at HK
          clear hdr hx hcs
          by_cases hxc : col < x
          · by_cases h1n : cv = 1
            · subst h1n
              have hres : R = x := by rw [HK.out]; unfold nthGt; rw [if_pos hxc, if_pos rfl]; rfl
              have HRES := Lib.hid hres
              clear hres
              go_wp2
              go_ret
              exact ⟨by rw [HRES.out]; rfl, hg1⟩
            · have h1b : (cv - 1 == 0) = false := by simp; omega
              have HK2 : Hid (R = (nthGt (zs.drop (k + 1)) col (cv - 1)).getD (max 0 (N - 1))) := Lib.hid (by rw [HK.out, nthGt, if_pos hxc, if_neg h1n])
              go_wp2
              go_roundw
              case rel => exact ⟨cv - 1, k + 1, rfl, by go_num, by omega, by omega, by omega, HK2, trivial⟩
              case measure => simp [intOf]; omega
          · have HK2 : Hid (R = (nthGt (zs.drop (k + 1)) col cv).getD (max 0 (N - 1))) := Lib.hid (by rw [HK.out, nthGt, if_neg hxc])
            go_wp2
            go_roundw
            case rel => exact ⟨cv, k + 1, rfl, by go_num, by omega, by omega, by omega, HK2, trivial⟩
            case measure => simp [intOf]; omega
      · obtain rfl : k = zs.length := by omega
        have hres : R = max 0 (N - 1) := by rw [HK.out, List.drop_length]; rfl
        have HRES := Lib.hid hres
        clear hres HK
        go_wp2
        go_ret
        exact ⟨by rw [HRES.out]; rfl, hg1⟩
  · obtain ⟨R, hR⟩ : ∃ R, R = max 0 (min col (N - 1)) := ⟨_, rfl⟩
    have e : nextR N f col nn = R := by unfold nextR; rw [if_pos (by omega), hR]
    rw [e]
    clear e
    have hn2 : nn < 1 := by omega
    have hw := within_any p N col f w h ⟨hN0, hN1⟩
    rw [← hR] at hw
    clear hR
    go_enter Tryd.func11, Tryd.ntmps11
    go_wp2_with (first
      | (go_at_call 32; (with_reducible refine hw.mono ?_); rintro e w1 ⟨rfl, rfl⟩))
    go_ret
    exact ⟨rfl, Gr.refl _⟩
end Go.Proofs.YtjdmobildcgidaaDoor
