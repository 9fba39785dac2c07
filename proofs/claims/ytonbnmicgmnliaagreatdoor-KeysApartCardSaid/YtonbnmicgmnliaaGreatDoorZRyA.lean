/-
  What is answered as a sequence: the plain law (a token of an id and numbers).
-/
import Derived.Test.YtonbnmicgmnliaaGreatDoorZTkT
namespace Go.Proofs.YtonbnmicgmnliaaGreatDoor
set_option linter.unusedSimpArgs false
set_option linter.unusedVariables false
set_option linter.unusedVariables false

/-- Has an id a mark at its head? -/
def markB (id : List Int) : Bool := match id with
  | c :: _ :: _ => decide (60 ≤ c ∧ c ≤ 63)
  | _ => false
def markR (id : List Int) : Int := if markB id = true then id.headD 0 else 0
/-- What is behind the mark. -/
def restR (id : List Int) : List Int := if markB id = true then id.tail else id
def clip16 (n : Int) : Int := if n < 0 then 0 else if 65535 < n then 65535 else n
/-- The token of an id, numbers and data. -/
def funT (kind : Int) (id ps d : List Int) : Tok := ⟨kind, (restR id).getLastD 0, markR id, (ps.take 30).map clip16, (restR id).dropLast, d⟩
/-- What is answered. -/
def ansR (t : Tok) (eight : Bool) : List Int := if checkR t = 0 then bytesR t eight else []
theorem markB_iff {id : List Int} : markB id = true ↔ ∃ c e r, id = c :: e :: r ∧ 60 ≤ c ∧ c ≤ 63 := by
  unfold markB
  constructor
  · intro h
    split at h
    · rename_i c e r
      exact ⟨c, e, r, rfl, of_decide_eq_true h⟩
    · cases h
  · rintro ⟨c, e, r, rfl, h⟩
    exact decide_eq_true h
/-- Without an id there is none. -/
theorem fun_none (kind : Int) (ps d : List Int) (hk : kind = 4 ∨ kind = 5) : checkR (funT kind [] ps d) ≠ 0 := by
  have hg : goodB (funT kind [] ps d) = false := by
    unfold goodB funT codeB
    rcases hk with rfl | rfl <;> simp [restR, markB]
  unfold checkR
  rw [hg]
  have : ¬ (kind < 1 ∨ 9 < kind) := by omega
  show (if kind < 1 ∨ 9 < kind then (1 : Int) else _) ≠ 0
  rw [if_neg this]
  split
  · decide
  · simp
theorem fun_range {kind : Int} {id ps d : List Int} (hi : ∀ c ∈ id, 0 ≤ c ∧ c < 256) (hd : ∀ c ∈ d, 0 ≤ c ∧ c < 256) : TRange (funT kind id ps d) := by
  have hr : ∀ c ∈ restR id, 0 ≤ c ∧ c < 256 := by
    intro c hc
    unfold restR at hc
    split at hc
    · exact hi c (List.mem_of_mem_tail hc)
    · exact hi c hc
  refine ⟨?_, ?_, fun c hc => hr c ((List.dropLast_subset _) hc), hd⟩
  · show 0 ≤ (restR id).getLastD 0 ∧ (restR id).getLastD 0 < 256
    cases h : restR id with
    | nil => simp
    | cons a r =>
      rw [← List.getLast_eq_getLastD (by simp)]
      exact hr _ (by rw [h]; exact List.getLast_mem _)
  · show 0 ≤ markR id ∧ markR id < 256
    unfold markR
    split
    · rename_i hm
      obtain ⟨c, e, r, rfl, h1, h2⟩ := markB_iff.1 hm
      show 0 ≤ c ∧ c < 256
      omega
    · omega
/-! ### Places, levels -/
end Go.Proofs.YtonbnmicgmnliaaGreatDoor
