/-
  The document's small functions on bytes, walked.
-/
import Derived.Test.YtgbmjlajheeciaaDoorZPbK
namespace Go.Proofs.YtgbmjlajheeciaaDoor
set_option linter.unusedSimpArgs false
set_option linter.unusedVariables false
open Go.RowKit

set_option maxHeartbeats 400000 in
theorem rdata_any (c : Int) (hc : 0 ≤ c ∧ c < 256) (w : World) : Calls Tryd.prog 31 #[.int .u8 c] w fun e w' => e = .returned (.bool (dataOk c)) ∧ w = w' := by
  obtain ⟨c0, c1⟩ := hc
  go_enter Tryd.func31, Tryd.ntmps31
  go_wp2
  all_goals (go_ret; refine ⟨?_, rfl⟩; go_light; refine congrArg (fun x => Ending.returned (Value.bool x)) ?_; rw [Bool.eq_iff_iff]; simp [dataOk]; try omega)

def beginsR (k : Int) : Int := if k = 4 then 91 else if k = 5 then 80 else if k = 6 then 93 else if k = 7 then 88 else if k = 8 then 94 else if k = 9 then 95 else 0
theorem begins_op (k : Nat) (h4 : 4 ≤ k) (h9 : k ≤ 9) (c : Int) : beginsR k = c ↔ opKind c = k := by
  have ho : ∀ n : Nat, opKind c = n → n = 4 ∧ c = 91 ∨ n = 5 ∧ c = 80 ∨ n = 6 ∧ c = 93 ∨ n = 7 ∧ c = 88 ∨ n = 8 ∧ c = 94 ∨ n = 9 ∧ c = 95 ∨ n = 0 := by
    intro n h
    unfold opKind at h
    repeat' split at h
    all_goals omega
  rcases (by omega : k = 4 ∨ k = 5 ∨ k = 6 ∨ k = 7 ∨ k = 8 ∨ k = 9) with rfl | rfl | rfl | rfl | rfl | rfl
  all_goals
    constructor
    · rintro rfl; rfl
    · intro h
      have := ho _ h
      show _ = c
      simp [beginsR]; omega
/-- The bytes of a string as numbers. -/
def bl (s : ByteArray) : List Int := s.data.toList.map fun b => (b.toNat : Int)
theorem bl_get (s : ByteArray) (k : Nat) (h : k < s.size) : (bl s)[k]? = some (s[k].toNat : Int) := by
  have : k < s.data.toList.length := h
  simp only [bl, List.getElem?_map, List.getElem?_eq_getElem this, Option.map_some]
  rfl
theorem u8_nat (c : Int) (h : 0 ≤ c ∧ c < 256) : ((UInt8.ofNat c.toNat).toNat : Int) = c := by
  have : (UInt8.ofNat c.toNat).toNat = c.toNat % 2 ^ 8 := UInt8.toNat_ofNat'
  rw [this]; omega
theorem bl_strOf (l : List Int) (h : ∀ c ∈ l, 0 ≤ c ∧ c < 256) : bl (strOf l) = l := by
  simp only [bl, strOf, List.map_map]
  conv => rhs; rw [← List.map_id l]
  apply List.map_congr_left
  intro c hc
  exact u8_nat c (h c hc)
end Go.Proofs.YtgbmjlajheeciaaDoor
