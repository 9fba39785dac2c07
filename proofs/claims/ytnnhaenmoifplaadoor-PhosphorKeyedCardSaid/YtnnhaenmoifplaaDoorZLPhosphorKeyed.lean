/-
  The law PhosphorKeyed holds of every input: the call returns true, and each argument reads as it did.
-/
import Derived.ChangeOld
import Derived.HandedShaped
import Derived.LaidMore
import Derived.Lay
import Derived.OpenShut
import Derived.ProofKit
import Derived.SevenTiedAt
import Derived.ShutString
import Derived.SizedLaws
import Derived.Stop.Joined
import Derived.Test.YtnnhaenmoifplaaDoorCards
import Derived.Test.YtnnhaenmoifplaaDoorRows
import Derived.Test.YtnnhaenmoifplaaDoorTie
import Derived.Test.YtnnhaenmoifplaaDoorZPkC
import Derived.Test.YtnnhaenmoifplaaDoorZCard
namespace Go.Proofs.YtnnhaenmoifplaaDoor.phosphorKeyed
open Go.ChangeShapes Go.WideShapes Go.ChangeAt Go.RowKit
open Go.ChangeMaps (open_string shut_string)
set_option linter.unusedVariables false

theorem own : ownKnob Tryd.prog.godebug = none := by kernel_rfl
theorem laidOut : laidOutB Tryd.prog = true := by kernel_rfl

theorem walk (a0 : Option Addr) (len0 cap0 : Nat) (bm1 bl1 : Int) (be1 : Bool) (bs1 : ByteArray) (w : World) (w0 : IsStructs w a0 len0 4 evU) (w1 : BdIn bm1 bs1) (hlaid : laidMetH Tryd.prog Rows.phosphorKeyedRow.laid w) (hsh : w.ShapedOpen Tryd.prog) :
    Calls Tryd.prog 3 #[.slice a0 len0 cap0, .agg #[.int .u32 bm1, .int .i64 bl1, .bool be1, .string bs1]] w fun e w' => e = .returned (.bool true) ∧ Gr w w' := keyed_law a0 len0 cap0 bm1 bl1 be1 bs1 w w0 w1 hlaid hsh

set_option maxRecDepth 100000 in
theorem lifted (os : Os) (started : os.Started) (H : Type) (enc : TypeId × Value → H) :
    ReturnsInHanded {} Tryd.checked os 3 .any (fun w args => (Rows.phosphorKeyedSpec.pre enc Tryd.prog Tryd.f3 [] false w args ∧ laidMetH Tryd.prog Rows.phosphorKeyedRow.laid w) ∧ sizedMet enc Tryd.prog Tryd.f3 (OpenSpec.ofChange Rows.phosphorKeyedSpec) false w args) (Rows.phosphorKeyedSpec.post enc Tryd.prog Tryd.f3 false true false false) := by
  refine handed_laid_shaped (C := Tryd.checked) (X := fun w _ => laidMetH Tryd.prog Rows.phosphorKeyedRow.laid w) (fun _ _ _ hh h => h.of_heap hh) own started (by kernel_rfl) Tryd.func3
    (ChangeSpec.witness_shaped (enc := enc) (C := Tryd.checked) (os := os) (X := fun w _ => laidMetH Tryd.prog Rows.phosphorKeyedRow.laid w) false (World.laidAll Tryd.prog os Rows.phosphorKeyedRow.laid) #[.slice none 0 0, .agg #[.int .u32 0, .int .i64 0, .bool false, .string ByteArray.empty]] 8 (World.laidAll_os _ _ _)
      (World.shaped_of_ZipB (by kernel_rfl) (by kernel_rfl)) (by kernel_rfl) (by kernel_rfl) (by kernel_rfl)
      (by rw [MakeChecks.laidMetH_plain _ _ _ (by kernel_rfl)]; exact laidMet_laidAll _ (by kernel_rfl) (by kernel_rfl))) ?_
  intro W base args ds gs before hval0 hW hreach hlaid hsh
  have hval : ∀ (j : Nat) t v, Tryd.f3.params[j]? = some t → args[j]? = some v → Value.okWide Tryd.prog W .any base t v := hval0
  have hW' := hW
  obtain ⟨p, q, hA0, hV, rfl, hfz, hnd⟩ := hW
  have hA : DataW.TrodAll enc Tryd.prog W 0 (fun _ => true) true Tryd.f3.params.toList args.toList ds p := hA0
  rw [Tryd.params3] at hA hval
  obtain ⟨v0, vs0, d0, ds0, p0, q0, hargs, rfl, rfl, h0, r0⟩ := trodAll_cons hA
  obtain ⟨v1, vs1, d1, ds1, p1, q1, rfl, rfl, rfl, h1, r1⟩ := trodAll_cons r0
  obtain ⟨rfl, rfl, rfl⟩ := trodAll_nil r1
  obtain rfl : args = #[v0, v1] := by cases args; simp_all
  obtain ⟨rfl, rfl⟩ := trodVars_none hV
  have k0 := h0
  have lt0 : ∀ x ∈ p0, x.block < W.heap.size := by obtain ⟨m, hm⟩ := k0; exact DataW.trod_lt m _ _ _ hm
  obtain ⟨a0, len0, cap0, rfl, w0⟩ := open_evs (hval 0 22 v0 rfl rfl) h0
  have k1 := h1
  have lt1 : ∀ x ∈ p1, x.block < W.heap.size := by obtain ⟨m, hm⟩ := k1; exact DataW.trod_lt m _ _ _ hm
  have wt1 : ∀ n ∈ d1.weights Tryd.prog 26, n ≤ reachBytes := fun n hn => by
    have := List.all_eq_true.1 hreach n (DataW.weights_mem_each (j := 1) rfl rfl n hn)
    simpa using this
  obtain ⟨bm1, bl1, be1, bs1, rfl, w1⟩ := open_bd (hval 1 26 v1 rfl rfl) h1 wt1
  clear hA0 hval0
  refine (walk a0 len0 cap0 bm1 bl1 be1 bs1 W w0 w1 hlaid hsh).mono fun e W' ⟨he, bel0⟩ => ?_
  have bel : Below W.heap.size W W' := bel0
  subst he
  exact ⟨_, rfl, _, _, _, [], _, [], hW', trodAll_mk1 (shut_bool Tryd.underlying4 _), (trodAll_cons_mk (Below.trod laidOut (by kernel_rfl) (of_decide_eq_true (by kernel_rfl)) k0 bel lt0) (trodAll_cons_mk (Below.trod laidOut (by kernel_rfl) (of_decide_eq_true (by kernel_rfl)) k1 bel lt1) trodAll_mk0)), rfl, bel.frame _, fun h => by cases h⟩

theorem over : Rows.phosphorKeyedRow.holds Tryd.pinned (OpenSpec.ofChange Rows.phosphorKeyedSpec) :=
  OpenClaim.holds_of_wide 3 Tryd.f3 rfl rfl rfl rfl rfl rfl rfl ⟨rfl, rfl, rfl, rfl, rfl⟩ rfl rfl rfl rfl rfl (by kernel_rfl) Tryd.func3 (by kernel_rfl)
    (of_decide_eq_true (by kernel_rfl)) (by unfold Func.isWrapper; first | (rw [if_pos (by decide +kernel)]; kernel_rfl) | (rw [if_neg (by decide +kernel)]; exact ⟨rfl, rfl⟩))
    (fun os started H enc _ => lifted os started H enc)

theorem proved : Rows.PhosphorKeyedCardSaid :=
  Claim7.holds_tied_plain_at .later [] [.data, .data, .data] true (true, "02b35f2da2479600e11e71009d6c34c9fed93461e8d5e95db4660b82f5562bef") false
    over (fun _ h => by cases h) (by kernel_rfl) (fun _ h => by cases h) phosphorKeyed_row_tie rfl ⟨rfl, rfl⟩ (by kernel_rfl) rfl
    (fun f fn hf hfn => by
      obtain rfl : f = 3 := Option.some.inj ((show Tryd.prog.funcNamed "phosphor/phosphortop.PhosphorKeyed" = some 3 by kernel_rfl).symm.trans hf) |>.symm
      obtain rfl : fn = Tryd.f3 := (Option.some.inj (Tryd.func3.symm.trans hfn)).symm
      exact ⟨by kernel_rfl, fun j t ht => by
        rw [Tryd.params3] at ht
        have hm : t ∈ [22, 26] := by simpa using Array.mem_of_getElem? ht
        have hall : ([22, 26].all fun u => !Tryd.prog.wantsStandIn u) = true := by kernel_rfl
        exact (show Tryd.prog.wantsStandIn t = false by simpa using List.all_eq_true.1 hall t hm)⟩)
    (by kernel_rfl)
#print axioms proved
end Go.Proofs.YtnnhaenmoifplaaDoor.phosphorKeyed
