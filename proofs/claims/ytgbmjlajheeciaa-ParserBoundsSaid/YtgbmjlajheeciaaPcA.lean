/-
  The document's small functions on bytes, walked.
-/
import Derived.Test.YtgbmjlajheeciaaPbK
namespace Go.Proofs.Ytgbmjlajheeciaa
set_option linter.unusedSimpArgs false
set_option linter.unusedVariables false
open Go.RowKit

set_option maxHeartbeats 400000 in
theorem rbreaks_any (c : Int) (w : World) : Calls Try.prog 55 #[.int .u8 c] w fun e w' => e = .returned (.bool (brk c)) ∧ w = w' := by
  go_enter Try.func55, Try.ntmps55
  go_wp2
  all_goals (go_ret; refine ⟨?_, rfl⟩; simp_all [brk]) <;> (rw [Bool.eq_iff_iff]; simp; try omega)

set_option maxHeartbeats 400000 in
theorem rctrl_any (c : Int) (w : World) : Calls Try.prog 24 #[.int .u8 c] w fun e w' => e = .returned (.agg (tcells (ctrlT c) (.slice none 0 0, .slice none 0 0)).toArray) ∧ Gr w w' := by
  go_enter Try.func24, Try.ntmps24
  go_wp2
  refine bodyPost_ret (v := .agg (tcells (ctrlT c) (.slice none 0 0, .slice none 0 0)).toArray) (by simp [results, Try.results24, go_sem, tcells, ctrlT, strOf]) rfl ⟨rfl, ?_⟩
  (repeat (first | with_reducible (refine Gr.setCell ?_ ?hp _; case hp => (simp; try omega)) | with_reducible refine Gr.alloc ?_ _ | with_reducible refine Gr.drew ?_ | with_reducible refine Gr.drewN ?_ _ | with_reducible assumption | with_reducible exact Gr.refl _ | with_reducible refine Gr.trans ?_ (by assumption)))

set_option maxHeartbeats 400000 in
theorem rdata_any (c : Int) (hc : 0 ≤ c ∧ c < 256) (w : World) : Calls Try.prog 57 #[.int .u8 c] w fun e w' => e = .returned (.bool (dataOk c)) ∧ w = w' := by
  obtain ⟨c0, c1⟩ := hc
  go_enter Try.func57, Try.ntmps57
  go_wp2
  all_goals (go_ret; refine ⟨?_, rfl⟩; go_light; refine congrArg (fun x => Ending.returned (Value.bool x)) ?_; rw [Bool.eq_iff_iff]; simp [dataOk]; try omega)

def beginsR (k : Int) : Int := if k = 4 then 91 else if k = 5 then 80 else if k = 6 then 93 else if k = 7 then 88 else if k = 8 then 94 else if k = 9 then 95 else 0
set_option maxHeartbeats 400000 in
theorem rbegins_any (k : Int) (w : World) : Calls Try.prog 56 #[.int .i64 k] w fun e w' => e = .returned (.int .u8 (beginsR k)) ∧ w = w' := by
  go_enter Try.func56, Try.ntmps56
  go_wp2
  all_goals (go_ret; refine ⟨?_, rfl⟩; simp_all [beginsR])
theorem begins_op (k : Nat) (h4 : 4 ≤ k) (h9 : k ≤ 9) (c : Int) : beginsR k = c ↔ opKind c = k := by
  have ho : ∀ n : Nat, opKind c = n → n = 4 ∧ c = 91 ∨ n = 5 ∧ c = 80 ∨ n = 6 ∧ c = 93 ∨ n = 7 ∧ c = 88 ∨ n = 8 ∧ c = 94 ∨ n = 9 ∧ c = 95 ∨ n = 0 := by
    intro n h
    unfold opKind at h
    repeat' split at h
    all_goals omega
  rcases (by omega : k = 4 ∨ k = 5 ∨ k = 6 ∨ k = 7 ∨ k = 8 ∨ k = 9) with rfl | rfl | rfl | rfl | rfl | rfl
  all_goals
    constructor
    · rintro rfl; rfl
    · intro h
      have := ho _ h
      show _ = c
      simp [beginsR]; omega
theorem opKind_ge (c : Int) : opKind c = 0 ∨ 4 ≤ opKind c := by
  simp only [opKind]
  repeat' split
  all_goals omega

set_option maxHeartbeats 400000 in
theorem rbegun_any (c : Int) (w : World) : Calls Try.prog 42 #[.int .u8 c] w fun e w' => e = .returned (.int .i64 (opKind c)) ∧ w = w' := by
  have hge := opKind_ge c
  have hle := (opKind_le c).2
  go_enter Try.func42, Try.ntmps42
  go_wp2
  go_loop [3] (fun t => ∃ k : Nat, 4 ≤ k ∧ k ≤ 10 ∧ t = .int .i64 k ∧ (opKind c = 0 ∨ (k : Int) ≤ opKind c)) (fun t => 10 - (intOf t).toNat)
  case atStart => exact ⟨4, by omega, by omega, rfl, hge⟩
  case round =>
    obtain ⟨k, h4, h10, rfl, hk⟩ := hrel
    by_cases h9 : k ≤ 9
    · have hb := begins_op k h4 h9 c
      obtain ⟨b, hbd⟩ : ∃ b, b = beginsR k := ⟨_, rfl⟩
      have hcon : Calls Try.prog 56 #[.int .i64 k] w fun e w' => e = .returned (.int .u8 b) ∧ w = w' := by rw [hbd]; exact rbegins_any k w
      rw [← hbd] at hb
      clear hbd
      by_cases hc : b = c
      · have hq : (b == c) = true := by simpa using hc
        have he := hb.1 hc
        clear hb hc hk hge
        have H := Lib.hid he; clear he
        go_wp2_with (go_at_call 56; refine hcon.mono ?_; rintro e w' ⟨rfl, rfl⟩)
        go_ret
        exact ⟨by rw [H.out]; rfl, rfl⟩
      · have hq : (b == c) = false := by simpa using hc
        have he : opKind c ≠ k := fun h => hc (hb.2 h)
        clear hb hc
        go_wp2_with (go_at_call 56; refine hcon.mono ?_; rintro e w' ⟨rfl, rfl⟩)
        go_round
        case rel => exact ⟨k + 1, by omega, by omega, by go_num, by omega⟩
        case measure => simp [intOf]; omega
    · have : k = 10 := by omega
      subst this
      have he : opKind c = 0 := by omega
      clear hk hge
      have H := Lib.hid he; clear he
      go_wp2
      go_ret
      exact ⟨by rw [H.out]; rfl, rfl⟩

/-- The bytes of a string as numbers. -/
def bl (s : ByteArray) : List Int := s.data.toList.map fun b => (b.toNat : Int)
theorem bl_len (s : ByteArray) : (bl s).length = s.size := by simp only [bl, List.length_map, Array.length_toList]; rfl
theorem bl_get (s : ByteArray) (k : Nat) (h : k < s.size) : (bl s)[k]? = some (s[k].toNat : Int) := by
  have : k < s.data.toList.length := h
  simp only [bl, List.getElem?_map, List.getElem?_eq_getElem this, Option.map_some]
  rfl
theorem u8_nat (c : Int) (h : 0 ≤ c ∧ c < 256) : ((UInt8.ofNat c.toNat).toNat : Int) = c := by
  have : (UInt8.ofNat c.toNat).toNat = c.toNat % 2 ^ 8 := UInt8.toNat_ofNat'
  rw [this]; omega
theorem bl_strOf (l : List Int) (h : ∀ c ∈ l, 0 ≤ c ∧ c < 256) : bl (strOf l) = l := by
  simp only [bl, strOf, List.map_map]
  conv => rhs; rw [← List.map_id l]
  apply List.map_congr_left
  intro c hc
  exact u8_nat c (h c hc)
theorem bl_extract (s : ByteArray) (a b : Nat) : bl (s.extract a b) = ((bl s).drop a).take (b - a) := by
  simp [bl, ByteArray.data_extract, Array.toList_extract, List.extract_eq_take_drop, List.map_take, List.map_drop]

def numU (n : Int) (l : List Int) : Int := l.foldl (fun n c => n * 10 + (c - 48)) n
theorem num_cap (l : List Int) : ∀ n : Int, 65535 ≤ n → (∀ c ∈ l, 48 ≤ c ∧ c ≤ 57) → l.foldl (fun n c => min (n * 10 + (c - 48)) 65535) (min n 65535) = 65535 := by
  induction l with
  | nil => intro n h _; simp; omega
  | cons c l ih =>
    intro n h hl
    have hc := hl c (by simp)
    simp only [List.foldl_cons]
    have := ih 65535 (by omega) fun x hx => hl x (by simp [hx])
    rw [show min (min n 65535 * 10 + (c - 48)) 65535 = min 65535 65535 by omega]
    exact this

set_option maxRecDepth 100000 in
set_option maxHeartbeats 1000000 in
theorem rnumber_any (s : ByteArray) (w : World) (hs : s.size ≤ 100000) (hd : ∀ c ∈ bl s, 48 ≤ c ∧ c ≤ 57) : Calls Try.prog 67 #[.string s] w fun e w' => e = .returned (.int .i64 (numR (bl s))) ∧ w = w' := by
  have hlen := bl_len s
  go_enter Try.func67, Try.ntmps67
  go_wp2
  go_loop [3, 4] (fun n i => ∃ (k : Nat) (m : Int), k ≤ s.size ∧ i = .int .i64 k ∧ n = .int .i64 m ∧ 0 ≤ m ∧ m ≤ 65535 ∧ ((bl s).drop k).foldl (fun n c => min (n * 10 + (c - 48)) 65535) m = numR (bl s)) (fun _ i => s.size - (intOf i).toNat)
  case atStart => exact ⟨0, 0, Nat.zero_le _, rfl, rfl, by omega, by omega, by simp [numR]⟩
  case round =>
    obtain ⟨k, m, hk, rfl, rfl, m0, m1, hr⟩ := hrel
    by_cases hlt : k < s.size
    · have hg := bl_get s k hlt
      have hmem : (s[k].toNat : Int) ∈ bl s := List.mem_of_getElem? hg
      obtain ⟨d0, d1⟩ := hd _ hmem
      have hdrop : (bl s).drop k = (s[k].toNat : Int) :: (bl s).drop (k + 1) := by
        rw [List.drop_eq_getElem_cons (by omega)]
        congr 1
        rw [List.getElem?_eq_getElem (by omega)] at hg
        injection hg
      rw [hdrop, List.foldl_cons] at hr
      obtain ⟨d, hdd⟩ : ∃ d : Nat, d = s[k].toNat := ⟨_, rfl⟩
      have H := Lib.hid hr; clear hr hg hmem hdrop
      by_cases hbig : 65535 < m * 10 + ((s[k].toNat : Int) - 48)
      · have hv : numR (bl s) = 65535 := by
          rw [← H.out]
          have := num_cap ((bl s).drop (k + 1)) (m * 10 + ((s[k].toNat : Int) - 48)) (by omega) fun x hx => hd x (List.mem_of_mem_drop hx)
          exact this
        have H2 := Lib.hid hv; clear hv
        have hb2 : 65535 < 10 * m + ((s[k].toNat : Int) - 48) := by omega
        clear hbig hdd hd
        go_wp2
        go_ret
        exact ⟨by rw [H2.out]; rfl, rfl⟩
      · have hb2 : ¬ 65535 < 10 * m + ((s[k].toNat : Int) - 48) := by omega
        have H2 := Lib.hid hbig
        clear hbig hdd hd
        go_wp2
        go_round
        case rel =>
          refine ⟨k + 1, 10 * m + ((s[k].toNat : Int) - 48), by omega, by go_num, by go_num, by omega, by omega, ?_⟩
          rw [← H.out]
          have := H2.out
          rw [show min (m * 10 + ((s[k].toNat : Int) - 48)) 65535 = 10 * m + ((s[k].toNat : Int) - 48) by omega]
        case measure => simp [intOf]; omega
    · have : (bl s).drop k = [] := List.drop_eq_nil_of_le (by omega)
      rw [this] at hr
      simp only [List.foldl_nil] at hr
      have H := Lib.hid hr; clear hr
      go_wp2
      go_ret
      exact ⟨by rw [H.out]; rfl, rfl⟩
end Go.Proofs.Ytgbmjlajheeciaa
