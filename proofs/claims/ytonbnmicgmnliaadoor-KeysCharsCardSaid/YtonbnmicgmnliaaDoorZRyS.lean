/-
  A character of G3, answered; answers as rows of so many bytes.
-/
import Derived.Test.YtonbnmicgmnliaaDoorZRyH
namespace Go.Proofs.YtonbnmicgmnliaaDoor
set_option linter.unusedSimpArgs false
set_option linter.unusedVariables false
open Go.RowKit
set_option linter.unusedVariables false

/-- An answer as a row of so many bytes. -/
def RowTo (W : World) (n : Nat) (L : List Int) (e : Ending) (w' : World) : Prop := ∃ va vc, e = .returned (.slice va n vc) ∧ HasRow w' 5 (.slice va n vc) n (bcells L) ∧ Gr W w'
set_option maxRecDepth 100000 in
set_option maxHeartbeats 2000000 in
theorem single_any {w : World} (eight : Bool) (c : Int) (hT : tabT w) : Calls Tryd.prog 33 #[.bool eight, .int .u8 c] w (AnsOwn w (pairR 79 eight ++ [c])) := by
  have hb : ∀ W, Gr w W → Calls Tryd.prog 45 #[.agg #[.int .i64 3, .int .u8 79, .int .u8 0, .slice none 0 0, .string ⟨#[]⟩, .slice none 0 0], .bool eight] W fun e w' => ∃ va vc r, e = .returned (.tuple #[.slice va (ansR ⟨3, 79, 0, [], [], []⟩ eight).length vc, .int .i64 r]) ∧ w'.ownsRow W.heap.size 5 1 (.slice va (ansR ⟨3, 79, 0, [], [], []⟩ eight).length vc) (ansR ⟨3, 79, 0, [], [], []⟩ eight).length (bcells (ansR ⟨3, 79, 0, [], [], []⟩ eight)) ∧ Gr W w' :=
    fun W hg => bytes_ans (t := ⟨3, 79, 0, [], [], []⟩) (q := (.slice none 0 0, .slice none 0 0)) ⟨by decide, by decide, by simp, by simp⟩ ⟨HasRow.nil _ _, HasRow.nil _ _⟩ (hT.gr hg) eight
  have e : ansR ⟨3, 79, 0, [], [], []⟩ eight = pairR 79 eight := by cases eight <;> rfl
  rw [e] at hb
  obtain ⟨A, hA⟩ : ∃ A, A = pairR 79 eight := ⟨_, rfl⟩
  have hAl : A.length ≤ 2 := by rw [hA]; unfold pairR; split <;> simp
  rw [← hA] at hb ⊢
  clear e hA
  obtain ⟨n, hn⟩ : ∃ n, n = A.length := ⟨_, rfl⟩
  have hbc : bcells (A ++ [c]) = bcells A ++ [.int .u8 c] := by simp [bcells]
  have hlen : (A ++ [c]).length = n + 1 := by simp [hn]
  unfold AnsOwn
  rw [hlen, hbc]
  rw [← hn] at hb hAl
  clear hn hbc hlen
  go_enter Tryd.func33, Tryd.ntmps33
  go_wp2_with (first
    | (go_at_call 45; (with_reducible refine (hb _ (Gr.refl w)).mono ?_); rintro e w1 ⟨va, vc, r, rfl, hO, hg1⟩)
    | (at_builtin; (refine wpList_addX (w0 := w) rfl _ _ _ _ rfl 5 _ 1 bytesT u8i rfl _ n _ rfl (ownsRow_gr hO ((Gr.refl w1).alloc _)) (hg1.alloc _) _ 1 [.int .u8 c] rfl (src_block bytesT _ (heap_alloc_new _ _) rfl (by simp [Value.oneCell'])) (by unfold maxLen; omega) (by omega) ?_); intro vb cb w2 hown2 hg2 hgb2))
  go_ret
  exact ⟨vb, cb, rfl, hown2, hg2⟩
end Go.Proofs.YtonbnmicgmnliaaDoor
