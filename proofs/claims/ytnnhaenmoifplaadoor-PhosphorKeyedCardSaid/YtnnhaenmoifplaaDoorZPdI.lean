/-
  The laws' fixed fact of the parser, walked; the document's Split as the laws use it.
  The law that a cancel leaves nothing begun, walked.
  A row of tokens told one by one, walked; parsers side by side.
-/
import Derived.Lib.SlBytesConst
import Derived.Test.YtnnhaenmoifplaaDoorZPdC
import Derived.Test.YtnnhaenmoifplaaDoorZPcQ
namespace Go.Proofs.YtnnhaenmoifplaaDoor
set_option linter.unusedSimpArgs false
set_option linter.unusedVariables false
open Go.RowKit

theorem AT.range {e : TypeId} {w : World} {ts : List Tok} {v : Value} {qs : List (Value × Value)} (h : AT e w ts v qs) {i : Nat} (hi : i < ts.length) :
    ∃ g cap t q, v = .slice (some ⟨g, 0, none⟩) ts.length cap ∧ ts[i]? = some t ∧ qs[i]? = some q ∧ w.rangeAt g (i * 6) (tcells t q) ∧ RTok w t q := by
  obtain ⟨g, cap, t, q, h1, h2, h3, h4⟩ := tok_range h.row h.len hi
  exact ⟨g, cap, t, q, h1, h2, h3, h4, h.toks i t q h2 h3⟩

end Go.Proofs.YtnnhaenmoifplaaDoor

namespace Go.Proofs.YtnnhaenmoifplaaDoor
set_option linter.unusedSimpArgs false
set_option linter.unusedVariables false
open Go.RowKit

/-- Tokens handed out stay as they are, whatever the parser does. -/
theorem Toks.stp {lv lv' : List Nat} {w w' : World} {ts : List Tok} {ov : Value} {qs : List (Value × Value)} (h : Toks lv w ts ov qs) (hs : Stp lv w lv' w') : Toks lv' w' ts ov qs := by
  have h3 : ∀ k, k < w.heap.size → k ∈ lv' → k ∈ lv := fun k hk hm => (hs.new k hm).resolve_right (by omega)
  exact ⟨ownsRow_same h.row fun k hk => hs.upd.block k (ownsRow_blk h.row hk) (h.rOut k hk), h.len, fun i t q ht hq => (h.toks i t q ht hq).upd hs.upd (fun _ _ h => h) h3, fun k hk hm => h.rOut k hk (h3 k (ownsRow_blk h.row hk) hm)⟩
theorem Toks.gr {lv : List Nat} {w w' : World} {ts : List Tok} {ov : Value} {qs : List (Value × Value)} (h : Toks lv w ts ov qs) (hg : Gr w w') : Toks lv w' ts ov qs := h.stp (Stp.gr hg)
/-- What is fed is new: it is none of the parser's. -/
theorem PP.lt {lv : List Nat} {w : World} {p : Nat} {s : PS} (h : PP lv w p s) : p < w.heap.size := by
  obtain ⟨_, _, _, h⟩ := h; exact blk_lt h.blk
/-- Blocks that may change, that are there: what comes next is none of them. -/
def Lvl (w : World) (lv : List Nat) : Prop := ∀ k ∈ lv, k < w.heap.size
end Go.Proofs.YtnnhaenmoifplaaDoor

namespace Go.Proofs.YtnnhaenmoifplaaDoor
set_option linter.unusedSimpArgs false
set_option linter.unusedVariables false
open Go.RowKit

/-! ### Parsers side by side -/
theorem PMem.gr {lv : List Nat} {w w' : World} {p : Nat} {s : PS} {iv dv av : Value} (h : PMem lv w p s iv dv av) (hg : Gr w w') : PMem lv w' p s iv dv av :=
  h.keep (Upd.of_gr (lv := []) hg) ((hg.block p (blk_lt h.blk)).trans h.blk) rfl rfl rfl (by simp) (by simp) (by simp)
def Dis (lv lv2 : List Nat) : Prop := ∀ k ∈ lv, k ∉ lv2
theorem PP.far {lv K lv' : List Nat} {w w' : World} {p : Nat} {s : PS} (h : PP lv w p s) (hs : Stp K w lv' w') (hd : Dis lv K) : PP lv w' p s := by
  obtain ⟨iv, dv, av, h⟩ := h
  have hk : ∀ k, k < w.heap.size → k ∈ lv → w'.heap[k]? = w.heap[k]? := fun k hk hm => hs.upd.block k hk (hd k hm)
  exact ⟨iv, dv, av, (hk p (blk_lt h.blk) h.pIn).trans h.blk, ownsRow_same h.inters fun k hb => hk k (ownsRow_blk h.inters hb) (h.iIn k hb), ownsRow_same h.data fun k hb => hk k (ownsRow_blk h.data hb) (h.dIn k hb),
    ownsRow_same h.done fun k hb => hk k (ownsRow_blk h.done hb) (h.aIn k hb), h.pIn, h.iIn, h.dIn, h.aIn, h.apart, Nat.zero_le _⟩
theorem Dis.stp {lv K lv' : List Nat} {w w' : World} (hd : Dis lv K) (hl : Lvl w lv) (hs : Stp K w lv' w') : Dis lv lv' := fun k hk hm => by
  rcases hs.new k hm with h | h
  · exact hd k hk h
  · have := hl k hk; omega
theorem Dis.symm {lv lv2 : List Nat} (h : Dis lv lv2) : Dis lv2 lv := fun k hk hm => h k hm hk
theorem Dis.sub {lv lv2 a b : List Nat} (h : Dis lv lv2) (ha : ∀ k ∈ a, k ∈ lv) (hb : ∀ k ∈ b, k ∈ lv2) : Dis a b := fun k hk hm => h k (ha k hk) (hb k hm)
theorem Lvl.mono {w w' : World} {lv : List Nat} (h : Lvl w lv) (hs : w.heap.size ≤ w'.heap.size) : Lvl w' lv := fun k hk => Nat.lt_of_lt_of_le (h k hk) hs
theorem Toks.sub {lv lv' : List Nat} {w : World} {ts : List Tok} {ov : Value} {qs : List (Value × Value)} (h : Toks lv w ts ov qs) (hs : ∀ k ∈ lv', k ∈ lv) : Toks lv' w ts ov qs :=
  ⟨h.row, h.len, fun i t q ht hq => (h.toks i t q ht hq).sub hs, fun k hk hm => h.rOut k hk (hs k hm)⟩
theorem Stp.sub {lv lv' lv2 : List Nat} {w w' : World} (h : Stp lv w lv' w') (hs : ∀ k ∈ lv2, k ∈ lv') : Stp lv w lv2 w' := ⟨h.upd, fun k hk => h.new k (hs k hk)⟩
/-- Tokens are in no block of another parser. -/
theorem Toks.apart {lv K lv' : List Nat} {w w' : World} {ts : List Tok} {ov : Value} {qs : List (Value × Value)} (h : Toks K w ts ov qs) (hs : Stp K w lv' w') : Toks lv' w' ts ov qs := h.stp hs
theorem AT.nil (e : TypeId) (w : World) : AT e w [] (.slice none 0 0) [] := ⟨World.ownsRow_nil _ _ _ _, rfl, by simp⟩
theorem AT.one {e : TypeId} {w : World} {ts : List Tok} {v : Value} {qs : List (Value × Value)} (h : AT e w ts v qs) : ∀ u ∈ tsCells ts qs, u.oneCell' = true := by
  have key : ∀ (ts : List Tok) (qs : List (Value × Value)), (∀ (i : Nat) (t : Tok) (q : Value × Value), ts[i]? = some t → qs[i]? = some q → RTok w t q) → ∀ u ∈ tsCells ts qs, u.oneCell' = true := by
    intro ts
    induction ts with
    | nil => intro qs _ u hu; cases qs <;> simp [tsCells] at hu
    | cons t l ih =>
      intro qs hq u hu
      cases qs with
      | nil => simp [tsCells] at hu
      | cons q r =>
        simp only [tsCells, List.mem_append] at hu
        rcases hu with hu | hu
        · have h0 := hq 0 t q rfl rfl
          obtain ⟨pa, pc, hp⟩ := h0.params.form
          obtain ⟨da, dc, hd⟩ := h0.data.form
          simp only [tcells, hp, hd] at hu
          simp at hu
          rcases hu with rfl | rfl | rfl | rfl | rfl | rfl <;> rfl
        · exact ih r (fun i t' q' ht hq' => hq (i + 1) t' q' (by simpa using ht) (by simpa using hq')) u hu
  exact key ts qs h.toks

end Go.Proofs.YtnnhaenmoifplaaDoor
