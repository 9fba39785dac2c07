/-
  Two parsers that are alike are found alike, walked.
-/
import Derived.Test.YtgbmjlajheeciaaPdH
import Derived.Test.YtgbmjlajheeciaaPdI
namespace Go.Proofs.Ytgbmjlajheeciaa
set_option linter.unusedSimpArgs false
set_option linter.unusedVariables false
open Go.RowKit

/-- The token begun, of two parsers that are alike. -/
theorem now_same {lv lv2 : List Nat} {w w0 : World} {p p2 : Nat} {s : PS} {iv av iv2 av2 : Value} {da da2 : Option Addr} {dc dc2 : Nat} (h1 : PMem lv w0 p s iv (.slice da s.data.length dc) av) (h2 : PMem lv2 w0 p2 s iv2 (.slice da2 s.data.length dc2) av2) (hg : Gr w0 w) :
    Calls Try.prog 28 #[.agg #[.int .i64 s.kind, .int .u8 s.code, .int .u8 s.mark, .slice none 0 0, .string ⟨#[]⟩, .slice da s.data.length dc], .agg #[.int .i64 s.kind, .int .u8 s.code, .int .u8 s.mark, .slice none 0 0, .string ⟨#[]⟩, .slice da2 s.data.length dc2]] w
      fun e w' => e = .returned (.bool true) ∧ Gr w w' :=
  token_same (t := ⟨s.kind, s.code, s.mark, [], [], s.data⟩) (q := (.slice none 0 0, .slice da s.data.length dc)) (q' := (.slice none 0 0, .slice da2 s.data.length dc2)) ⟨.nil _ _, (HasRow.of_own h1.data).gr hg⟩ ⟨.nil _ _, (HasRow.of_own h2.data).gr hg⟩ (by simp)

/-- What Same reads of a parser. -/
def Seen (w' : World) (p : Nat) (s : PS) (iv dv : Value) : Prop := w'.cell? ⟨p, 0, none⟩ = some (.int .i64 s.phase) ∧ w'.cell? ⟨p, 1, none⟩ = some (.int .i64 s.kind) ∧ w'.cell? ⟨p, 2, none⟩ = some (.int .u8 s.code) ∧ w'.cell? ⟨p, 3, none⟩ = some (.int .u8 s.mark) ∧ w'.cell? ⟨p, 4, none⟩ = some (.slice none 0 0) ∧ w'.cell? ⟨p, 5, none⟩ = some (.string ⟨#[]⟩) ∧ w'.cell? ⟨p, 6, none⟩ = some dv ∧ w'.cell? ⟨p, 7, none⟩ = some iv ∧ w'.cell? ⟨p, 11, none⟩ = some (.bool s.first) ∧ w'.cell? ⟨p, 12, none⟩ = some (.bool s.void)
theorem Seen.of {lv : List Nat} {w w' : World} {p : Nat} {s : PS} {iv dv av : Value} (h1 : PMem lv w p s iv dv av) (hg : Gr w w') : Seen w' p s iv dv := by
  have b1 := hg.blk h1.blk
  exact ⟨cell_of_row b1 0 _ rfl, cell_of_row b1 1 _ rfl, cell_of_row b1 2 _ rfl, cell_of_row b1 3 _ rfl, cell_of_row b1 4 _ rfl, cell_of_row b1 5 _ rfl, cell_of_row b1 6 _ rfl, cell_of_row b1 7 _ rfl, cell_of_row b1 11 _ rfl, cell_of_row b1 12 _ rfl⟩

set_option maxRecDepth 100000 in
set_option maxHeartbeats 2000000 in
theorem same_true {lv lv2 : List Nat} {w : World} {p p2 : Nat} {s : PS} (hok : s.ok) (h1 : PP lv w p s) (h2 : PP lv2 w p2 s) :
    Calls Try.prog 17 #[.pointer (some ⟨p, 0, none⟩), .pointer (some ⟨p2, 0, none⟩)] w fun e w' => e = .returned (.bool true) ∧ Gr w w' := by
  obtain ⟨iv, dv, av, h1⟩ := h1
  obtain ⟨iv2, dv2, av2, h2⟩ := h2
  obtain ⟨ia, ic, rfl⟩ := row_form h1.inters
  obtain ⟨ia2, ic2, rfl⟩ := row_form h2.inters
  obtain ⟨da, dc, rfl⟩ := row_form h1.data
  obtain ⟨da2, dc2, rfl⟩ := row_form h2.data
  have hS1 := fun w' => Seen.of (w' := w') h1
  have hS2 := fun w' => Seen.of (w' := w') h2
  unfold Seen at hS1 hS2
  go_enter Try.func17, Try.ntmps17
  go_wp2_with fail
  go_region_held3 (fun w' => Gr w w' ∧ (w'.cell? ⟨p, 0, none⟩ = some (.int .i64 s.phase) ∧ w'.cell? ⟨p, 1, none⟩ = some (.int .i64 s.kind) ∧ w'.cell? ⟨p, 2, none⟩ = some (.int .u8 s.code) ∧ w'.cell? ⟨p, 3, none⟩ = some (.int .u8 s.mark) ∧ w'.cell? ⟨p, 4, none⟩ = some (.slice none 0 0) ∧ w'.cell? ⟨p, 5, none⟩ = some (.string ⟨#[]⟩) ∧ w'.cell? ⟨p, 6, none⟩ = some (.slice da s.data.length dc) ∧ w'.cell? ⟨p, 7, none⟩ = some (.slice ia s.inters.length ic) ∧ w'.cell? ⟨p, 11, none⟩ = some (.bool s.first) ∧ w'.cell? ⟨p, 12, none⟩ = some (.bool s.void)) ∧ w'.cell? ⟨p2, 0, none⟩ = some (.int .i64 s.phase) ∧ w'.cell? ⟨p2, 1, none⟩ = some (.int .i64 s.kind) ∧ w'.cell? ⟨p2, 2, none⟩ = some (.int .u8 s.code) ∧ w'.cell? ⟨p2, 3, none⟩ = some (.int .u8 s.mark) ∧ w'.cell? ⟨p2, 4, none⟩ = some (.slice none 0 0) ∧ w'.cell? ⟨p2, 5, none⟩ = some (.string ⟨#[]⟩) ∧ w'.cell? ⟨p2, 6, none⟩ = some (.slice da2 s.data.length dc2) ∧ w'.cell? ⟨p2, 7, none⟩ = some (.slice ia2 s.inters.length ic2) ∧ w'.cell? ⟨p2, 11, none⟩ = some (.bool s.first) ∧ w'.cell? ⟨p2, 12, none⟩ = some (.bool s.void))
    ((refine (fun hg => ⟨hg, hS1 _ hg, hS2 _ hg⟩) ?_; (repeat (first | with_reducible exact Gr.refl _ | with_reducible assumption | with_reducible refine Gr.setCell ?_ (by simp; try omega) _ | with_reducible refine Gr.alloc ?_ _ | with_reducible refine Gr.drew ?_ | with_reducible refine Gr.drewN ?_ _ | with_reducible refine Gr.trans ?_ (by assumption)))))
    (first
      | (go_at_call 28; refine (now_same h1 h2 (by (repeat (first | with_reducible exact Gr.refl _ | with_reducible assumption | with_reducible refine Gr.setCell ?_ (by simp; try omega) _ | with_reducible refine Gr.alloc ?_ _ | with_reducible refine Gr.drew ?_ | with_reducible refine Gr.drewN ?_ _ | with_reducible refine Gr.trans ?_ (by assumption))))).mono ?_; rintro e w1 ⟨rfl, hg1⟩)
      | (go_at_call 29; refine (equal_bytes ((HasRow.of_own h1.inters).gr (by (repeat (first | with_reducible exact Gr.refl _ | with_reducible assumption | with_reducible refine Gr.setCell ?_ (by simp; try omega) _ | with_reducible refine Gr.alloc ?_ _ | with_reducible refine Gr.drew ?_ | with_reducible refine Gr.drewN ?_ _ | with_reducible refine Gr.trans ?_ (by assumption))))) ((HasRow.of_own h2.inters).gr (by (repeat (first | with_reducible exact Gr.refl _ | with_reducible assumption | with_reducible refine Gr.setCell ?_ (by simp; try omega) _ | with_reducible refine Gr.alloc ?_ _ | with_reducible refine Gr.drew ?_ | with_reducible refine Gr.drewN ?_ _ | with_reducible refine Gr.trans ?_ (by assumption)))))).mono ?_; rintro e w2 ⟨rfl, rfl⟩)
      | (go_at_call 30; refine (acc_same hok (h1.gr (by (repeat (first | with_reducible exact Gr.refl _ | with_reducible assumption | with_reducible refine Gr.setCell ?_ (by simp; try omega) _ | with_reducible refine Gr.alloc ?_ _ | with_reducible refine Gr.drew ?_ | with_reducible refine Gr.drewN ?_ _ | with_reducible refine Gr.trans ?_ (by assumption))))) (h2.gr (by (repeat (first | with_reducible exact Gr.refl _ | with_reducible assumption | with_reducible refine Gr.setCell ?_ (by simp; try omega) _ | with_reducible refine Gr.alloc ?_ _ | with_reducible refine Gr.drew ?_ | with_reducible refine Gr.drewN ?_ _ | with_reducible refine Gr.trans ?_ (by assumption)))))).mono ?_; rintro e w3 ⟨rfl, hg3⟩))
  go_wp2_with fail
  go_ret
  exact ⟨rfl, by (repeat (first | with_reducible exact Gr.refl _ | with_reducible assumption | with_reducible refine Gr.setCell ?_ (by simp; try omega) _ | with_reducible refine Gr.alloc ?_ _ | with_reducible refine Gr.drew ?_ | with_reducible refine Gr.drewN ?_ _ | with_reducible refine Gr.trans ?_ (by assumption)))⟩
end Go.Proofs.Ytgbmjlajheeciaa
