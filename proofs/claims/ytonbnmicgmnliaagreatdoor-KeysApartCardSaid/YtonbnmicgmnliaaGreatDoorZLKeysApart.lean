/-
  The law KeysApart holds of every input: the call returns true, and each argument reads as it did.
-/
import Derived.ChangeOld
import Derived.HandedShaped
import Derived.LaidMore
import Derived.Lay
import Derived.OpenShut
import Derived.ProofKit
import Derived.SevenTiedAt
import Derived.ShutString
import Derived.SizedLaws
import Derived.Stop.Joined
import Derived.Test.YtonbnmicgmnliaaGreatDoorCards
import Derived.Test.YtonbnmicgmnliaaGreatDoorRows
import Derived.Test.YtonbnmicgmnliaaGreatDoorTie
import Derived.Test.YtonbnmicgmnliaaGreatDoorZKyXl
import Derived.Test.YtonbnmicgmnliaaGreatDoorZCard
namespace Go.Proofs.YtonbnmicgmnliaaGreatDoor.keysApart
open Go.ChangeShapes Go.WideShapes Go.ChangeAt Go.RowKit
open Go.ChangeMaps (open_string shut_string)
set_option linter.unusedVariables false

theorem own : ownKnob Tryz.prog.godebug = none := by kernel_rfl
theorem laidOut : laidOutB Tryz.prog = true := by kernel_rfl

theorem walk (ek0 ec0 : Int) (eh0 et0 : Bool) (ek1 ec1 : Int) (eh1 et1 : Bool) (a2 : Bool) (w : World) (w0 : EvIn ec0) (w1 : EvIn ec1) (hlaid : laidMetH Tryz.prog Rows.keysApartRow.laid w) (hsh : w.ShapedOpen Tryz.prog) :
    Calls Tryz.prog 3 #[.agg #[.int .i64 ek0, .int .u8 ec0, .bool eh0, .bool et0], .agg #[.int .i64 ek1, .int .u8 ec1, .bool eh1, .bool et1], .bool a2] w fun e w' => e = .returned (.bool true) ∧ Gr w w' := apart_law ek0 ec0 eh0 et0 ek1 ec1 eh1 et1 a2 w w0 w1 hlaid hsh

set_option maxRecDepth 100000 in
theorem lifted (os : Os) (started : os.Started) (H : Type) (enc : TypeId × Value → H) :
    ReturnsInHanded {} Tryz.checked os 3 .any (fun w args => (Rows.keysApartSpec.pre enc Tryz.prog Tryz.f3 [] false w args ∧ laidMetH Tryz.prog Rows.keysApartRow.laid w) ∧ sizedMet enc Tryz.prog Tryz.f3 (OpenSpec.ofChange Rows.keysApartSpec) false w args) (Rows.keysApartSpec.post enc Tryz.prog Tryz.f3 false true false false) := by
  refine handed_laid_shaped (C := Tryz.checked) (X := fun w _ => laidMetH Tryz.prog Rows.keysApartRow.laid w) (fun _ _ _ hh h => h.of_heap hh) own started (by kernel_rfl) Tryz.func3
    (ChangeSpec.witness_shaped (enc := enc) (C := Tryz.checked) (os := os) (X := fun w _ => laidMetH Tryz.prog Rows.keysApartRow.laid w) false (World.laidAll Tryz.prog os Rows.keysApartRow.laid) #[.agg #[.int .i64 0, .int .u8 0, .bool false, .bool false], .agg #[.int .i64 0, .int .u8 0, .bool false, .bool false], .bool false] 8 (World.laidAll_os _ _ _)
      (World.shaped_of_ZipB (by kernel_rfl) (by kernel_rfl)) (by kernel_rfl) (by kernel_rfl) (by kernel_rfl)
      (by rw [MakeChecks.laidMetH_plain _ _ _ (by kernel_rfl)]; exact laidMet_laidAll _ (by kernel_rfl) (by kernel_rfl))) ?_
  intro W base args ds gs before hval0 hW hreach hlaid hsh
  have hval : ∀ (j : Nat) t v, Tryz.f3.params[j]? = some t → args[j]? = some v → Value.okWide Tryz.prog W .any base t v := hval0
  have hW' := hW
  obtain ⟨p, q, hA0, hV, rfl, hfz, hnd⟩ := hW
  have hA : DataW.TrodAll enc Tryz.prog W 0 (fun _ => true) true Tryz.f3.params.toList args.toList ds p := hA0
  rw [Tryz.params3] at hA hval
  obtain ⟨v0, vs0, d0, ds0, p0, q0, hargs, rfl, rfl, h0, r0⟩ := trodAll_cons hA
  obtain ⟨v1, vs1, d1, ds1, p1, q1, rfl, rfl, rfl, h1, r1⟩ := trodAll_cons r0
  obtain ⟨v2, vs2, d2, ds2, p2, q2, rfl, rfl, rfl, h2, r2⟩ := trodAll_cons r1
  obtain ⟨rfl, rfl, rfl⟩ := trodAll_nil r2
  obtain rfl : args = #[v0, v1, v2] := by cases args; simp_all
  obtain ⟨rfl, rfl⟩ := trodVars_none hV
  have k0 := h0
  have lt0 : ∀ x ∈ p0, x.block < W.heap.size := by obtain ⟨m, hm⟩ := k0; exact DataW.trod_lt m _ _ _ hm
  have wt0 : ∀ n ∈ d0.weights Tryz.prog 23, n ≤ reachBytes := fun n hn => by
    have := List.all_eq_true.1 hreach n (DataW.weights_mem_each (j := 0) rfl rfl n hn)
    simpa using this
  obtain ⟨ek0, ec0, eh0, et0, rfl, w0⟩ := open_ev (hval 0 23 v0 rfl rfl) h0 wt0
  have k1 := h1
  have lt1 : ∀ x ∈ p1, x.block < W.heap.size := by obtain ⟨m, hm⟩ := k1; exact DataW.trod_lt m _ _ _ hm
  have wt1 : ∀ n ∈ d1.weights Tryz.prog 23, n ≤ reachBytes := fun n hn => by
    have := List.all_eq_true.1 hreach n (DataW.weights_mem_each (j := 1) rfl rfl n hn)
    simpa using this
  obtain ⟨ek1, ec1, eh1, et1, rfl, w1⟩ := open_ev (hval 1 23 v1 rfl rfl) h1 wt1
  obtain ⟨a2, rfl, rfl, rfl⟩ := open_bool Tryz.underlying4 (hval 2 4 v2 rfl rfl) h2
  clear hA0 hval0
  refine (walk ek0 ec0 eh0 et0 ek1 ec1 eh1 et1 a2 W w0 w1 hlaid hsh).mono fun e W' ⟨he, bel0⟩ => ?_
  have bel : Below W.heap.size W W' := bel0
  subst he
  exact ⟨_, rfl, _, _, _, [], _, [], hW', trodAll_mk1 (shut_bool Tryz.underlying4 _), (trodAll_cons_mk (Below.trod laidOut (by kernel_rfl) (of_decide_eq_true (by kernel_rfl)) k0 bel lt0) (trodAll_cons_mk (Below.trod laidOut (by kernel_rfl) (of_decide_eq_true (by kernel_rfl)) k1 bel lt1) (trodAll_cons_mk (shut_bool Tryz.underlying4 _) trodAll_mk0))), rfl, bel.frame _, fun h => by cases h⟩

theorem over : Rows.keysApartRow.holds Tryz.pinned (OpenSpec.ofChange Rows.keysApartSpec) :=
  OpenClaim.holds_of_wide 3 Tryz.f3 rfl rfl rfl rfl rfl rfl rfl ⟨rfl, rfl, rfl, rfl, rfl⟩ rfl rfl rfl rfl rfl (by kernel_rfl) Tryz.func3 (by kernel_rfl)
    (of_decide_eq_true (by kernel_rfl)) (by unfold Func.isWrapper; first | (rw [if_pos (by decide +kernel)]; kernel_rfl) | (rw [if_neg (by decide +kernel)]; exact ⟨rfl, rfl⟩))
    (fun os started H enc _ => lifted os started H enc)

theorem proved : Rows.KeysApartCardSaid :=
  Claim7.holds_tied_plain_at .later [] [.data, .data, .data] true (true, "423bcd118476ee1acb3088fb79b6dddec14df9b047565bbb98af1c6f0a0e5fcf") false
    over (fun _ h => by cases h) (by kernel_rfl) (fun _ h => by cases h) keysApart_row_tie rfl ⟨rfl, rfl⟩ (by kernel_rfl) rfl
    (fun f fn hf hfn => by
      obtain rfl : f = 3 := Option.some.inj ((show Tryz.prog.funcNamed "phosphor/phosphorlaw22.KeysApart" = some 3 by kernel_rfl).symm.trans hf) |>.symm
      obtain rfl : fn = Tryz.f3 := (Option.some.inj (Tryz.func3.symm.trans hfn)).symm
      exact ⟨by kernel_rfl, fun j t ht => by
        rw [Tryz.params3] at ht
        have hm : t ∈ [23, 23, 4] := by simpa using Array.mem_of_getElem? ht
        have hall : ([23, 23, 4].all fun u => !Tryz.prog.wantsStandIn u) = true := by kernel_rfl
        exact (show Tryz.prog.wantsStandIn t = false by simpa using List.all_eq_true.1 hall t hm)⟩)
    (by kernel_rfl)
#print axioms proved
end Go.Proofs.YtonbnmicgmnliaaGreatDoor.keysApart
