/-
  How an id is taken off a text of ids; both texts' Restore.
  Left and right apart: the region in which both are made, whatever order is drawn.
  The law that acts do in both texts the same, walked.
-/
import Derived.ChangeSame
import Derived.Deep.Fields
import Derived.Deep.Slices
import Derived.OpenShut
import Derived.Test.YtfkecgkfcldffaaGreatDoorShelf
import Derived.Test.YtfkecgkfcldffaaGreatDoorZIsP
import Derived.Test.YtfkecgkfcldffaaGreatDoorZLw4
import Derived.Test.YtfkecgkfcldffaaGreatDoorZOrd2
import Derived.Test.YtfkecgkfcldffaaGreatDoorZIsC
import Derived.Test.YtfkecgkfcldffaaGreatDoorZIsD
namespace Go.Proofs.YtfkecgkfcldffaaGreatDoor
set_option linter.unusedSimpArgs false
set_option linter.unusedVariables false
open Go.RowKit
set_option linter.unusedVariables false

/-- How many bytes the id at the front has. -/
def idN (l : List UInt8) : Nat := if Lib.hasPrefix l [37] = true then 2 else 1

set_option maxHeartbeats 1000000 in
theorem sid_any (s : ByteArray) (w : World) (hs : s.size ≤ maxLen) :
    Calls Tryz.prog 74 #[.string s] w fun e w' => e = .returned (.tuple #[.string (s.extract 0 (min (idN s.data.toList) s.size)), .string (s.extract (min (idN s.data.toList) s.size) s.size)]) ∧ Gr w w' := by
  unfold maxLen at hs
  have h37 : (ByteArray.mk #[37]).data.toList = [37] := rfl
  have hpre := Tryz.strings_HasPrefix s ⟨#[37]⟩
  simp only [h37] at hpre
  unfold idN
  rcases hp : Lib.hasPrefix s.data.toList [37] with _ | _
  · rw [hp] at hpre
    rw [if_neg (by decide)]
    obtain ⟨n, hn⟩ : ∃ n, n = min 1 s.size := ⟨_, rfl⟩
    have hni : min 1 (s.size : Int) = (n : Int) := by omega
    have hn1 : (n : Int) ≤ (s.size : Int) := by omega
    have hn0 : (0 : Int) ≤ (n : Int) := by omega
    rw [← hn]
    clear hn
    go_enter Tryz.func74, Tryz.ntmps74
    go_wp2_with (go_at_call 102; refine (hpre _).mono ?_; rintro e w1 ⟨rfl, rfl⟩)
    go_quiet (fail)
    go_wp2_with fail
    exact bodyPost_ret (v := .tuple #[.string (s.extract 0 n), .string (s.extract n s.size)]) (by simp [results, Tryz.results74, go_sem]) rfl ⟨rfl, by (repeat (first | with_reducible exact Gr.refl _ | with_reducible assumption | with_reducible refine Gr.setCell ?_ (by simp; try omega) _ | with_reducible refine Gr.alloc ?_ _ | with_reducible refine Gr.drew ?_ | with_reducible refine Gr.drewN ?_ _ | with_reducible refine Gr.trans ?_ (by assumption)))⟩
  · rw [hp] at hpre
    rw [if_pos rfl]
    obtain ⟨n, hn⟩ : ∃ n, n = min 2 s.size := ⟨_, rfl⟩
    have hni : min 2 (s.size : Int) = (n : Int) := by omega
    have hn1 : (n : Int) ≤ (s.size : Int) := by omega
    have hn0 : (0 : Int) ≤ (n : Int) := by omega
    rw [← hn]
    clear hn
    go_enter Tryz.func74, Tryz.ntmps74
    go_wp2_with (go_at_call 102; refine (hpre _).mono ?_; rintro e w1 ⟨rfl, rfl⟩)
    go_quiet (fail)
    go_wp2_with fail
    exact bodyPost_ret (v := .tuple #[.string (s.extract 0 n), .string (s.extract n s.size)]) (by simp [results, Tryz.results74, go_sem]) rfl ⟨rfl, by (repeat (first | with_reducible exact Gr.refl _ | with_reducible assumption | with_reducible refine Gr.setCell ?_ (by simp; try omega) _ | with_reducible refine Gr.alloc ?_ _ | with_reducible refine Gr.drew ?_ | with_reducible refine Gr.drewN ?_ _ | with_reducible refine Gr.trans ?_ (by assumption)))⟩
end Go.Proofs.YtfkecgkfcldffaaGreatDoor

namespace Go.Proofs.YtfkecgkfcldffaaGreatDoor
set_option linter.unusedSimpArgs false
set_option linter.unusedVariables false
open Go.RowKit
set_option linter.unusedVariables false

theorem setRow_gr {w0 w : World} {g : Nat} {cells : Array Value} (hg : Gr w0 w) (hge : w0.heap.size ≤ g) : Gr w0 (w.setRow g cells) :=
  Below.trans hg ⟨rfl, rfl, rfl, by simp [World.setRow], fun k hk => setRow_other w g k cells (by omega)⟩
end Go.Proofs.YtfkecgkfcldffaaGreatDoor

namespace Go.Proofs.YtfkecgkfcldffaaGreatDoor
set_option linter.unusedSimpArgs false
set_option linter.unusedVariables false
open Go.RowKit
set_option linter.unusedVariables false

def S7.new : S7 := ⟨1, 1, 4, 4, 0, 2, 0⟩

/-! ### The two states at the beginning -/
theorem wpList_store_seven {P : Program} {ops : Array Oper} {rest : List Oper} {o : Oper} {a : Act} {w : World} {Q : Exit → Act → World → Prop}
    (hgd : o.guard = none) (ty : TypeId) (x y : Operand) (ho : o.op = .store ty x y) (g : Nat) (cells : Array Value)
    (hx : a.eval x = .pointer (some ⟨g, 0, none⟩)) (hy : a.eval y = .agg cells) (t : TypeId) (old : Array Value) (hg : w.heap[g]? = some (.cells old t (0, 0)))
    (hi : (P.info? ty).map (·.size) = some cells.size) (hold : old.size = cells.size) (h1 : cells.all (·.oneCell') = true)
    (h : ∀ w', w'.heap[g]? = some (.cells cells t (0, 0)) → Upd [g] w w' → wpList P ops Q rest (a.put o.dst undef) w') : wpList P ops Q (o :: rest) a w :=
  wpList_plain hgd fun _ hK => wp_store_row ty x y ho g cells hx hy t old hg hi hold h1
    (hK _ _ (h _ (setRow_heap w g old cells t _ hg) setRow_upd))
end Go.Proofs.YtfkecgkfcldffaaGreatDoor
