/-
  The document's sequence with numbers: helpers.
-/
import Derived.Test.YtgbmjlajheeciaaPcP
namespace Go.Proofs.Ytgbmjlajheeciaa
set_option linter.unusedSimpArgs false
set_option linter.unusedVariables false
open Go.RowKit

theorem rparse_get {P : Program} {f : FuncId} {args : Array Value} {w : World} {kind : Int} {p q : Tok × Bool} {b : Bool} (hb : p.2 = b) (hp : p = q) (H : Calls P f args w (ParseTo w kind q)) :
    Calls P f args w fun e w' => ∃ t pa pc, e = .returned (.tuple #[.agg #[.int .i64 t.kind, .int .u8 t.code, .int .u8 t.mark, .slice pa t.params.length pc, .string (strOf t.inters), .slice none 0 0], .bool b]) ∧ HasRow w' 3 (.slice pa t.params.length pc) t.params.length (icells t.params) ∧ t.kind = kind ∧ t.data = [] ∧ (b = true → t = p.1) ∧ Gr w w' := by
  subst hp
  refine H.mono ?_
  rintro e w' ⟨t, pv, rfl, h1, h2, h3, h4, h5⟩
  obtain ⟨pa, pc, rfl⟩ := h1.form
  exact ⟨t, pa, pc, by rw [hb]; rfl, h1, h2, h3, fun h => h4 (by rw [hb]; exact h), h5⟩
/-- A row of bytes beside a row of tokens that has grown. -/
theorem grown_row {w2 W w3 : World} {B B' n m : Nat} {x row : Value} {xs ys : List Value} (h : w2.ownsRow B 5 1 x n xs) (hgrow : W.grownBy w3 row.ownBlock) (hrow : W.ownsRow B' 52 6 row m ys) (hg : Gr w2 W) : w3.ownsRow B 5 1 x n xs :=
  ownsRow_same (ownsRow_gr h hg) fun k hk => hgrow.block k (ownsRow_blk (ownsRow_gr h hg) hk) fun e => row_type (ownsRow_gr h hg) hrow (by decide) hk e.symm
theorem heap_new2 (w : World) (o o' : Obj) : ((w.alloc o).alloc o').heap[w.heap.size + 1]? = some o' := by
  have := heap_alloc_new (w.alloc o) o'
  simpa using this
theorem hdr_rest_drop (last : Int) (l : List Int) : ∀ n : Nat, ∃ m, (hdr last (l.drop n)).rest = l.drop m := by
  have key : ∀ (k : List Int), ∃ m, (hdr last k).rest = k.drop m := by
    intro k
    induction k with
    | nil => exact ⟨0, rfl⟩
    | cons c k ih =>
      obtain ⟨m, hm⟩ := ih
      simp only [hdr]
      split
      · exact ⟨0, rfl⟩
      · split
        · exact ⟨m + 1, by simpa using hm⟩
        · split
          · exact ⟨m + 1, by simpa using hm⟩
          · split
            · exact ⟨1, rfl⟩
            · exact ⟨m + 1, by simpa using hm⟩
  intro n
  obtain ⟨m, hm⟩ := key (l.drop n)
  exact ⟨n + m, by rw [hm, List.drop_drop]⟩
/-- Of one that is void only the kind counts. -/
theorem str_good {t : Tok} {p : Tok × Bool} {kind : Int} {b : Bool} (hb : p.2 = b) (h : b = true → t = p.1) (hk : t.kind = kind) (hk2 : p.1.kind = kind) (l : List Int) (ts : List Tok) : strR t b l ts = strR p.1 p.2 l ts := by
  rw [hb]
  cases b with
  | true => rw [h rfl]
  | false => exact str_bad l t p.1 ts (hk.trans hk2.symm)
end Go.Proofs.Ytgbmjlajheeciaa
