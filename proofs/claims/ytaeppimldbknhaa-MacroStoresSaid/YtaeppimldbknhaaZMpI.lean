/-
  A map, cloned by the library (its extern entry).
-/
import Derived.Deep.OwnRows
import Derived.Shelf.SlMaps.Clone
import Derived.Test.YtaeppimldbknhaaZSrc
import Derived.Test.YtaeppimldbknhaaZMpG
namespace Go.Proofs.Ytaeppimldbknhaa
set_option linter.unusedSimpArgs false
set_option linter.unusedVariables false
open Go.RowKit Go.Maps Go.Deep Go.Shelf
set_option linter.unusedVariables false

set_option maxRecDepth 100000 in
set_option maxHeartbeats 2000000 in
theorem mclone_any (b : Nat) (es : Array MapEntry) (clock : Nat) (w : World) (hb : w.heap[b]? = some (.map es clock)) :
    Calls Try.prog 32 #[.map (some b)] w fun e w' => e = .returned (.map (some w.heap.size)) ∧ w' = w.alloc (.map es clock) := by
  have hq := fun w => run_eql_map_nil_sl (P := Try.prog) w 33 _ _ (some b) Try.underlying33
  go_enter Try.func32, Try.ntmps32
  go_wp2
  rw [run_callFunc_extern Try.func50 (by kernel_rfl) (by kernel_rfl) (by kernel_rfl) (e := Extern.MapsClone.clone) (by kernel_rfl), run_maps_clone_sl w 33 hb]
  simp only [Result.andThen]
  rw [Oper.upon_value]
  go_wp2
  rw [run_typeAssert_map_sl _ 33 _ _ _ _ Try.underlying33]
  simp only [Result.andThen]
  rw [Oper.upon_value]
  go_wp2
  go_ret
  exact ⟨rfl, rfl⟩
set_option maxRecDepth 100000 in
set_option maxHeartbeats 2000000 in
theorem mclone_nil (w : World) :
    Calls Try.prog 32 #[.map none] w fun e w' => e = .returned (.map none) ∧ w' = w := by
  have hq := fun w => run_eql_map_nil_sl (P := Try.prog) w 33 _ _ none Try.underlying33
  go_enter Try.func32, Try.ntmps32
  go_wp2
  go_ret
  exact ⟨rfl, rfl⟩
theorem SL.mpLen {P : Program} {n : Nat} {ops : Array Oper} {Q : Post} {l : List Oper} {e : Nat → Value} {w0 w : World} {o : Oper} {U : List Nat} {L : List HA} {t k el : TypeId} {m : Operand} {i b c : Nat} {D : DataW Unit} (hs : SH U w0 w L) (hg : o.guard = none) (hd : dok n o.dst = true)
    (ho : o.op = .call { callee := .builtin .len, args := #[m], argTypes := #[t] }) (hm : evE e m = .map (some b)) (ht : P.underlying t = some (.map k el)) (hL : L[i]? = some (mpH P k el b c D))
    (h : SL P n ops Q l (dput e o.dst (.int .i64 (Maps.size D : Nat))) w) : SL P n ops Q (o :: l) e w := by
  have hr := (hs.map_at hL).len ht o.type
  refine SL.val hg hd ?_ h
  unfold execOp
  simp [ho, hm, resolve, invoke, builtin, Sem.run_bind, Sem.run_pure, Result.andThen_ok, hr]
theorem HSt.oneM {A : HA} {w : World} {f : List Nat} (h : HSt [A] w f) : A.at_ w f := by
  obtain ⟨f1, f2, rfl, h1, h2, _⟩ := h
  have h2 : f2 = [] := h2
  subst h2
  rw [List.append_nil]
  exact h1
theorem clone_tr (b n : Nat) (D : DataW Unit) (w : World) : Tr Try.prog 32 #[.map (some b)] w [mpH Try.prog 3 9 b n D] (fun v Q => ∃ b2, v = .map (some b2) ∧ Q = [mpH Try.prog 3 9 b2 n D, mpH Try.prog 3 9 b n D]) := fun fp hfp => by
  obtain ⟨rfl, hown⟩ := hfp.oneM
  have hlt := hown.lt
  obtain ⟨es, clock, hb, F, hs, hD⟩ := hown
  refine (mclone_any b es clock w hb).mono fun e w' ⟨he, hw⟩ => ?_
  subst hw
  have hg := (Gr.refl w).alloc (.map es clock)
  refine ⟨_, _, [w.heap.size] ++ ([b] ++ []), he, ⟨_, rfl, rfl⟩, ⟨[w.heap.size], [b] ++ [], rfl, ⟨rfl, es, clock, heap_alloc_new _ _, F, hs, hD⟩, ⟨[b], [], rfl, ⟨rfl, es, clock, (hg.block b hlt).trans hb, F, hs, hD⟩, rfl, by simp⟩, fun g hg' hm => ?_⟩, hg.updU, fun g hg' => ?_⟩
  · simp at hg' hm; omega
  · simp at hg' ⊢; omega
end Go.Proofs.Ytaeppimldbknhaa
