/-
  Answers of few numbers: the cursor's place and modes, in both texts.
  A character of G3, answered; answers as rows of so many bytes.
-/
import Derived.Test.YtonbnmicgmnliaaGreatDoorZRyG
namespace Go.Proofs.YtonbnmicgmnliaaGreatDoor
set_option linter.unusedSimpArgs false
set_option linter.unusedVariables false
open Go.RowKit
set_option linter.unusedVariables false

def csiR (id ps : List Int) (eight : Bool) : List Int := ansR (funT 4 id ps []) eight
theorem hasRow_lit {w : World} {g n : Nat} {l : List Int} {cs : Array Value} (hn : l.length = n) (hc : cs = (icells l).toArray) (h : w.heap[g]? = some (.cells cs 3 (0, 0))) : HasRow w 3 (.slice (some ⟨g, 0, none⟩) n n) n (icells l) := by
  subst hc
  refine ⟨by rw [icells_len]; exact hn, .inr ⟨g, n, _, rfl, ⟨_, h⟩, Nat.le_refl _, by simp [icells_len, hn], ?_⟩⟩
  exact List.take_of_length_le (by simp [icells_len, hn])
set_option maxRecDepth 100000 in
set_option maxHeartbeats 1000000 in
theorem rcsi_any {w : World} {s : ByteArray} {a : Option Addr} {n c : Nat} {ps : List Int} (eight : Bool) (h : HasRow w 3 (.slice a n c) n (icells ps)) (hn : n ≤ 9223372036854775807) (hs : s.size ≤ 1000) :
    Calls Tryz.prog 9 #[.bool eight, .string s, .slice a n c] w (RBOut w (csiR (nums s) ps eight)) := by
  have hf := rfun_walk (k := 4) (d := ⟨#[]⟩) eight (.inl rfl) h hn hs (by decide)
  rw [show nums ⟨#[]⟩ = [] from rfl] at hf
  obtain ⟨A, hA⟩ : ∃ A, A = csiR (nums s) ps eight := ⟨_, rfl⟩
  unfold csiR at hA
  rw [← hA] at hf
  unfold csiR
  rw [← hA]
  clear h hA
  go_enter Tryz.func9, Tryz.ntmps9
  go_wp2_with (go_at_call 14; (with_reducible refine hf.mono ?_); rintro e w1 ⟨v, rfl, hv, hg⟩)
  go_ret
  exact ⟨v, rfl, hv, hg⟩
end Go.Proofs.YtonbnmicgmnliaaGreatDoor

namespace Go.Proofs.YtonbnmicgmnliaaGreatDoor
set_option linter.unusedSimpArgs false
set_option linter.unusedVariables false
open Go.RowKit
set_option linter.unusedVariables false

/-- An answer as a row of so many bytes. -/
def RowTo (W : World) (n : Nat) (L : List Int) (e : Ending) (w' : World) : Prop := ∃ va vc, e = .returned (.slice va n vc) ∧ HasRow w' 5 (.slice va n vc) n (bcells L) ∧ Gr W w'
set_option maxRecDepth 100000 in
set_option maxHeartbeats 2000000 in
theorem single_any {w : World} (eight : Bool) (c : Int) (hT : tabT w) : Calls Tryz.prog 30 #[.bool eight, .int .u8 c] w (AnsOwn w (pairR 79 eight ++ [c])) := by
  have hb : ∀ W, Gr w W → Calls Tryz.prog 42 #[.agg #[.int .i64 3, .int .u8 79, .int .u8 0, .slice none 0 0, .string ⟨#[]⟩, .slice none 0 0], .bool eight] W fun e w' => ∃ va vc r, e = .returned (.tuple #[.slice va (ansR ⟨3, 79, 0, [], [], []⟩ eight).length vc, .int .i64 r]) ∧ w'.ownsRow W.heap.size 5 1 (.slice va (ansR ⟨3, 79, 0, [], [], []⟩ eight).length vc) (ansR ⟨3, 79, 0, [], [], []⟩ eight).length (bcells (ansR ⟨3, 79, 0, [], [], []⟩ eight)) ∧ Gr W w' :=
    fun W hg => bytes_ans (t := ⟨3, 79, 0, [], [], []⟩) (q := (.slice none 0 0, .slice none 0 0)) ⟨by decide, by decide, by simp, by simp⟩ ⟨HasRow.nil _ _, HasRow.nil _ _⟩ (hT.gr hg) eight
  have e : ansR ⟨3, 79, 0, [], [], []⟩ eight = pairR 79 eight := by cases eight <;> rfl
  rw [e] at hb
  obtain ⟨A, hA⟩ : ∃ A, A = pairR 79 eight := ⟨_, rfl⟩
  have hAl : A.length ≤ 2 := by rw [hA]; unfold pairR; split <;> simp
  rw [← hA] at hb ⊢
  clear e hA
  obtain ⟨n, hn⟩ : ∃ n, n = A.length := ⟨_, rfl⟩
  have hbc : bcells (A ++ [c]) = bcells A ++ [.int .u8 c] := by simp [bcells]
  have hlen : (A ++ [c]).length = n + 1 := by simp [hn]
  unfold AnsOwn
  rw [hlen, hbc]
  rw [← hn] at hb hAl
  clear hn hbc hlen
  go_enter Tryz.func30, Tryz.ntmps30
  go_wp2_with (first
    | (go_at_call 42; (with_reducible refine (hb _ (Gr.refl w)).mono ?_); rintro e w1 ⟨va, vc, r, rfl, hO, hg1⟩)
    | (at_builtin; (refine wpList_addX (w0 := w) rfl _ _ _ _ rfl 5 _ 1 bytesT u8i rfl _ n _ rfl (ownsRow_gr hO ((Gr.refl w1).alloc _)) (hg1.alloc _) _ 1 [.int .u8 c] rfl (src_block bytesT _ (heap_alloc_new _ _) rfl (by simp [Value.oneCell'])) (by unfold maxLen; omega) (by omega) ?_); intro vb cb w2 hown2 hg2 hgb2))
  go_ret
  exact ⟨vb, cb, rfl, hown2, hg2⟩
end Go.Proofs.YtonbnmicgmnliaaGreatDoor
