/-
  The laws' fixed fact of the parser, walked; the document's Split as the laws use it.
-/
import Derived.Test.YtgbmjlajheeciaaPdC
import Derived.Test.YtgbmjlajheeciaaPcV
import Derived.Lib.SlBytesConst
namespace Go.Proofs.Ytgbmjlajheeciaa
set_option linter.unusedSimpArgs false
set_option linter.unusedVariables false
open Go.RowKit

theorem AT.range {e : TypeId} {w : World} {ts : List Tok} {v : Value} {qs : List (Value × Value)} (h : AT e w ts v qs) {i : Nat} (hi : i < ts.length) :
    ∃ g cap t q, v = .slice (some ⟨g, 0, none⟩) ts.length cap ∧ ts[i]? = some t ∧ qs[i]? = some q ∧ w.rangeAt g (i * 6) (tcells t q) ∧ RTok w t q := by
  obtain ⟨g, cap, t, q, h1, h2, h3, h4⟩ := tok_range h.row h.len hi
  exact ⟨g, cap, t, q, h1, h2, h3, h4, h.toks i t q h2 h3⟩

def awakeT : List Tok := [printT 97, ctrlT 10, ⟨4, 109, 0, [1, 2], [], []⟩]
theorem awake_feed : (feedM PS.init [97, 27, 91, 49, 59, 10, 50, 109]).2 = awakeT := by decide +kernel

/-- What the fixed fact looks at. -/
theorem awake_cells {w : World} {v : Value} {qs : List (Value × Value)} (h : AT 31 w awakeT v qs) : ∃ g cap g2 cap2, v = .slice (some ⟨g, 0, none⟩) 3 cap ∧ w.cell? ⟨g, 7, none⟩ = some (.int .u8 10) ∧ w.cell? ⟨g, 12, none⟩ = some (.int .i64 4) ∧
    w.cell? ⟨g, 15, none⟩ = some (.slice (some ⟨g2, 0, none⟩) 2 cap2) ∧ w.cell? ⟨g2, 1, none⟩ = some (.int .i64 2) := by
  obtain ⟨g, cap, t1, q1, h1, h2, h3, h4, h5⟩ := h.range (i := 1) (by decide)
  obtain ⟨g', cap', t2, q2, h1', h2', h3', h4', h5'⟩ := h.range (i := 2) (by decide)
  rw [h1] at h1'
  injection h1' with e1
  injection e1 with e1
  injection e1 with e1
  subst e1
  have t1e : ctrlT 10 = t1 := by simpa [awakeT] using h2
  have t2e : (⟨4, 109, 0, [1, 2], [], []⟩ : Tok) = t2 := by simpa [awakeT] using h2'
  subst t1e; subst t2e
  obtain ⟨g2, cap2, u, hv, hu, hc⟩ := h5'.params.at_ (k := 1) (by decide)
  have hu : u = .int .i64 2 := by simpa [icells] using hu.symm
  subst hu
  exact ⟨g, cap, g2, cap2, h1, h4 1 _ rfl, h4' 0 _ rfl, by have := h4' 3 _ rfl; rw [hv] at this; exact this, hc⟩

set_option maxRecDepth 100000 in
set_option maxHeartbeats 1000000 in
theorem awake_walk (w : World) : Calls Try.prog 10 #[] w fun e w' => e = .returned (.bool true) ∧ Gr w w' := by
  have hg := (Gr.refl w).alloc (.cells #[.int .u8 97, .int .u8 27, .int .u8 91, .int .u8 49, .int .u8 59, .int .u8 10, .int .u8 50, .int .u8 109] 5 (8, 9))
  have hrd : Rd (w.alloc (.cells #[.int .u8 97, .int .u8 27, .int .u8 91, .int .u8 49, .int .u8 59, .int .u8 10, .int .u8 50, .int .u8 109] 5 (8, 9))) (some ⟨w.heap.size, 0, none⟩) 8 (bcells [97, 27, 91, 49, 59, 10, 50, 109]) :=
    rd_of_block (cs := bcells [97, 27, 91, 49, 59, 10, 50, 109]) (heap_alloc_new w _)
  have hc := psplit_walk (cap := 8) (by decide) (by omega) hrd
  rw [awake_feed] at hc
  clear hrd
  have kc := fun (w : World) (C : Array Value) (n c : Nat) => Lib.run_convert_bytes_const (P := Try.prog) w 22 5 C n c Try.underlying22 Try.underlying5
  go_enter Try.func10, Try.ntmps10
  go_wp2_with (go_at_call 16; refine hc.mono ?_; rintro e w1 ⟨ov, qs, rfl, hA, hg1⟩; obtain ⟨g, cap, g2, cap2, rfl, k1, k2, k3, k4⟩ := awake_cells hA)
  go_ret
  exact ⟨rfl, hg.trans hg1⟩

/-- What the document's reading leaves, for the laws. -/
def RSplitTo (w : World) (r : PS × List Tok) (e : Ending) (w' : World) : Prop := ∃ a c qs b, e = .returned (.tuple #[.slice a r.2.length c, .bool b]) ∧ AT 52 w' r.2 (.slice a r.2.length c) qs ∧ Gr w w' ∧ decide (r.1.phase = 0) = !b
theorem rsplit_law {w : World} {a : Option Addr} {n cap : Nat} {l : List Int} (hl : ∀ c ∈ l, 0 ≤ c ∧ c < 256) (hn : n ≤ 40000) (hr : Rd w a n (bcells l)) :
    Calls Try.prog 12 #[.slice a n cap] w (RSplitTo w (feedM PS.init l)) := by
  refine (rsplit_walk hl hn hr).mono ?_
  rintro e w' ⟨v, qs, rfl, hT, hg⟩
  obtain ⟨h1, h2⟩ := feed_split l hl
  obtain ⟨va, vc, rfl⟩ := row_form hT.row
  rw [← h1] at hT ⊢
  refine ⟨va, vc, qs, _, rfl, hT.at_, hg, ?_⟩
  cases hb : (splitR (plainL l).length (plainL l)).2
  · have : (feedM PS.init l).1.phase = 0 := by
      rcases Classical.em ((feedM PS.init l).1.phase = 0) with h | h
      · exact h
      · have := h2.2 h; rw [hb] at this; cases this
    simp [this]
  · have := h2.1 hb
    simp [this]
theorem conv_rd {w : World} {a : Option Addr} {n cap : Nat} {l : List Int} (h : Rd w a n (bcells l)) : (convert 22 9 (.slice a n cap)).run Try.prog w = .ok (.string (strOf l)) w := by
  have hl : l.length = n := by simpa [bcells] using h.1
  rcases h.2 with h0 | ⟨b, off, rfl, hc⟩
  · subst h0
    have : l = [] := List.eq_nil_of_length_eq_zero hl
    subst this
    cases a with
    | none => exact run_convert_bytes_nil w _ 5 Try.underlying22 Try.underlying5 0 cap _ Try.underlying9
    | some x =>
      have hl : (loadCells x 0).run Try.prog w = .ok (([] : List Int).map (Value.int .u8)).toArray w := run_loadCells_list (P := Try.prog) w x [] (by simp)
      rw [run_convert_bytes_string w 22 9 5 _ 0 cap Try.underlying22 Try.underlying5 Try.underlying9, run_bytesToString w _ 0 cap [] hl]
      simp [strOf, ByteArray.empty, ByteArray.emptyWithCapacity]
      rfl
  · refine run_convert_bytes_arg w _ 5 Try.underlying22 Try.underlying5 b off n cap l hl (fun i hi => ?_) _ Try.underlying9
    exact hc i _ (by simp [bcells, List.getD, List.getElem?_eq_getElem (show i < l.length by omega)])
end Go.Proofs.Ytgbmjlajheeciaa
