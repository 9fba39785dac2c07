/-
  The document's plain stream, walked.
-/
import Derived.Test.YtgbmjlajheeciaaPcB
namespace Go.Proofs.Ytgbmjlajheeciaa
set_option linter.unusedSimpArgs false
set_option linter.unusedVariables false
open Go.RowKit

theorem Rd.gr {w w' : World} {a : Option Addr} {n : Nat} {xs : List Value} (h : Rd w a n xs) (hg : Gr w w') : Rd w' a n xs := h.upd (Upd.of_gr (lv := []) hg) (by simp [Out])
/-- What a function leaves that makes a row of bytes. -/
def BytesTo (w : World) (l : List Int) (e : Ending) (w' : World) : Prop := ∃ v, e = .returned v ∧ w'.ownsRow w.heap.size 5 1 v l.length (bcells l) ∧ Gr w w'
theorem plainL_take {l : List Int} {k : Nat} {c : Int} (h : l[k]? = some c) : plainL (l.take (k + 1)) = plainL (l.take k) ++ plainOf c := by
  rw [List.take_add_one, h]
  simp [plainL]

set_option maxRecDepth 100000 in
set_option maxHeartbeats 1000000 in
theorem rplain_walk {w : World} {a : Option Addr} {n cap : Nat} {l : List Int} (hl : ∀ c ∈ l, 0 ≤ c ∧ c < 256) (hn : n ≤ 40000) (hr : Rd w a n (bcells l)) : Calls Try.prog 22 #[.slice a n cap] w (BytesTo w (plainL l)) := by
  have hln : l.length = n := by simpa [bcells] using hr.1
  go_enter Try.func22, Try.ntmps22
  go_wp2_with fail
  go_loopw [3, 4] (fun v i wr => ∃ (k m : Nat), k ≤ n ∧ m = (plainL (l.take k)).length ∧ i = .int .i64 k ∧ wr.ownsRow w.heap.size 5 1 v m (bcells (plainL (l.take k))) ∧ Gr w wr) (fun _ i _ => n - (intOf i).toNat)
  case atStart => exact ⟨0, 0, Nat.zero_le _, by simp [plainL], rfl, World.ownsRow_nil _ _ _ _, .refl _⟩
  case round =>
    obtain ⟨k, m, hk, hm, rfl, hrow, hgr⟩ := hrel
    have hsz := hgr.size
    have hm2 : m ≤ 80000 := by
      have := plainL_len (l.take k)
      have := List.length_take_le k l
      omega
    have HM := Lib.hid hm; clear hm
    obtain ⟨ra, rc, hv⟩ := row_form hrow
    subst hv
    by_cases hlt : k < n
    · obtain ⟨b, off, c, rfl, hc, hcell, hb⟩ := (hr.gr hgr).byte hlt
      have hrange := hl c (List.mem_of_getElem? hc)
      obtain ⟨c0, c1⟩ := hrange
      have hpl := plainL_take hc
      have HP := Lib.hid hpl
      have HC := Lib.hid hc
      have hkn : (k : Int) < (n : Int) := by omega
      clear hr hl hln hk hpl hc
      by_cases h0 : c = 0 ∨ c = 127
      · have he : plainL (l.take (k + 1)) = plainL (l.take k) := by rw [HP.out]; simp [plainOf, h0]
        have HE := Lib.hid he; clear he
        rcases h0 with rfl | rfl
        all_goals
          go_wp2_with fail
          go_roundw
          case rel => exact ⟨k + 1, m, by omega, by rw [HE.out]; exact HM.out, by go_num, by rw [HE.out]; exact hrow, hgr⟩
          case measure => simp [intOf]; omega
      · have q0 : (c == 0) = false := by simp; omega
        have q127 : (c == 127) = false := by simp; omega
        by_cases h1 : 128 ≤ c ∧ c < 160
        · have h1a := decide_eq_true h1.1
          have h1b := decide_eq_true h1.2
          have he : plainL (l.take (k + 1)) = plainL (l.take k) ++ [27, c - 64] := by rw [HP.out]; simp [plainOf, h0, h1]
          obtain ⟨h1c, h1d⟩ := h1
          have HE := Lib.hid he; clear he
          have H0 := Lib.hid h0; clear h0
          go_wp2_with (at_builtin; refine wpList_pushM rfl _ _ _ rfl w.heap.size 5 (.int .u8 0) 1 Try.underlying22 u8_info rfl (by omega) _ _ _ [.int .u8 27, .int .u8 (c - 64)] (hrow.alloc _) _ _ _ rfl rfl (heap_alloc_new _ _) rfl (by omega) (by intro v hv; simp at hv; rcases hv with rfl | rfl <;> rfl) (by omega) (by simp; omega) ?_; intro g cap w2 hG hown)
          go_roundw
          case rel => exact ⟨k + 1, m + 2, by omega, by rw [HE.out]; have := HM.out; simp; omega, by go_num, by rw [HE.out]; simpa [bcells] using hown, hG.gr (hgr.alloc _) fun k hk => ownsRow_base hrow hk⟩
          case measure => simp [intOf]; omega
        · have q1 : (decide (128 ≤ c) && decide (c < 160)) = false := by simp; omega
          have he : plainL (l.take (k + 1)) = plainL (l.take k) ++ [c] := by rw [HP.out]; simp only [plainOf]; rw [if_neg h0, if_neg h1]
          have HE := Lib.hid he; clear he
          have H0 := Lib.hid h0; clear h0
          have H1 := Lib.hid h1; clear h1
          cases h128 : decide (128 ≤ c)
          all_goals
            try have h160 : decide (c < 160) = false := by simpa [h128] using q1
            go_wp2_with (at_builtin; refine wpList_push1 rfl _ _ _ rfl w.heap.size 5 (.int .u8 0) 1 Try.underlying22 u8_info rfl (by omega) _ _ _ _ (hrow.alloc _) _ rfl rfl (cell_alloc1 _ _ _) rfl (by omega) (by simp; omega) ?_; intro g cap w2 hG hown)
            go_roundw
            case rel => exact ⟨k + 1, m + 1, by omega, by rw [HE.out]; have := HM.out; simp; omega, by go_num, by rw [HE.out]; simpa [bcells] using hown, hG.gr (hgr.alloc _) fun k hk => ownsRow_base hrow hk⟩
            case measure => simp [intOf]; omega
    · have hkn : ¬ (k : Int) < (n : Int) := by omega
      have he : l.take k = l := List.take_of_length_le (by omega)
      rw [he] at HM hrow
      clear hr hl hln hk he
      go_wp2_with fail
      go_ret
      refine ⟨.slice ra m rc, rfl, ?_, hgr⟩
      rw [← HM.out]
      exact hrow
end Go.Proofs.Ytgbmjlajheeciaa
