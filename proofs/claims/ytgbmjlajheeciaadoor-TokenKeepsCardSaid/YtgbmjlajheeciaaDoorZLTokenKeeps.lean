/-
  The law TokenKeeps holds of every input: the call returns true, and each argument reads as it did.
-/
import Derived.ChangeOld
import Derived.HandedShaped
import Derived.LaidMore
import Derived.Lay
import Derived.OpenShut
import Derived.ProofKit
import Derived.SevenTiedAt
import Derived.ShutString
import Derived.SizedLaws
import Derived.Stop.Joined
import Derived.Test.YtgbmjlajheeciaaDoorCards
import Derived.Test.YtgbmjlajheeciaaDoorRows
import Derived.Test.YtgbmjlajheeciaaDoorTie
import Derived.Test.YtgbmjlajheeciaaDoorZCard
import Derived.Test.YtgbmjlajheeciaaDoorZTkKd
namespace Go.Proofs.YtgbmjlajheeciaaDoor.tokenKeeps
open Go.ChangeShapes Go.WideShapes Go.ChangeAt Go.RowKit
open Go.ChangeMaps (open_string shut_string)
set_option linter.unusedVariables false

theorem own : ownKnob Tryd.prog.godebug = none := by kernel_rfl
theorem laidOut : laidOutB Tryd.prog = true := by kernel_rfl

theorem walk (xk0 xc0 xm0 : Int) (xa0 : Option Addr) (xn0 xp0 : Nat) (xz0 : List Int) (xs0 : ByteArray) (ya0 : Option Addr) (yn0 yp0 : Nat) (yz0 : List Int) (w : World) (w0 : TokIn w xk0 xc0 xm0 xa0 xn0 xp0 xz0 xs0 ya0 yn0 yp0 yz0) (hlaid : laidMetH Tryd.prog Rows.tokenKeepsRow.laid w) (hsh : w.ShapedOpen Tryd.prog) :
    Calls Tryd.prog 6 #[.agg #[.int .i64 xk0, .int .u8 xc0, .int .u8 xm0, .slice xa0 xn0 xp0, .string xs0, .slice ya0 yn0 yp0]] w fun e w' => e = .returned (.bool true) ∧ Gr w w' := keeps_law xk0 xc0 xm0 xa0 xn0 xp0 xz0 xs0 ya0 yn0 yp0 yz0 w w0 hlaid hsh

set_option maxRecDepth 100000 in
theorem lifted (os : Os) (started : os.Started) (H : Type) (enc : TypeId × Value → H) :
    ReturnsInHanded {} Tryd.checked os 6 .any (fun w args => (Rows.tokenKeepsSpec.pre enc Tryd.prog Tryd.f6 [] false w args ∧ laidMetH Tryd.prog Rows.tokenKeepsRow.laid w) ∧ sizedMet enc Tryd.prog Tryd.f6 (OpenSpec.ofChange Rows.tokenKeepsSpec) false w args) (Rows.tokenKeepsSpec.post enc Tryd.prog Tryd.f6 false true false false) := by
  refine handed_laid_shaped (C := Tryd.checked) (X := fun w _ => laidMetH Tryd.prog Rows.tokenKeepsRow.laid w) (fun _ _ _ hh h => h.of_heap hh) own started (by kernel_rfl) Tryd.func6
    (ChangeSpec.witness_shaped (enc := enc) (C := Tryd.checked) (os := os) (X := fun w _ => laidMetH Tryd.prog Rows.tokenKeepsRow.laid w) false (World.laidAll Tryd.prog os Rows.tokenKeepsRow.laid) #[.agg #[.int .i64 0, .int .u8 0, .int .u8 0, .slice none 0 0, .string ByteArray.empty, .slice none 0 0]] 8 (World.laidAll_os _ _ _)
      (World.shaped_of_ZipB (by kernel_rfl) (by kernel_rfl)) (by kernel_rfl) (by kernel_rfl) (by kernel_rfl)
      (by rw [MakeChecks.laidMetH_plain _ _ _ (by kernel_rfl)]; exact laidMet_laidAll _ (by kernel_rfl) (by kernel_rfl))) ?_
  intro W base args ds gs before hval0 hW hreach hlaid hsh
  have hval : ∀ (j : Nat) t v, Tryd.f6.params[j]? = some t → args[j]? = some v → Value.okWide Tryd.prog W .any base t v := hval0
  have hW' := hW
  obtain ⟨p, q, hA0, hV, rfl, hfz, hnd⟩ := hW
  have hA : DataW.TrodAll enc Tryd.prog W 0 (fun _ => true) true Tryd.f6.params.toList args.toList ds p := hA0
  rw [Tryd.params6] at hA hval
  obtain ⟨v0, vs0, d0, ds0, p0, q0, hargs, rfl, rfl, h0, r0⟩ := trodAll_cons hA
  obtain ⟨rfl, rfl, rfl⟩ := trodAll_nil r0
  obtain rfl : args = #[v0] := by cases args; simp_all
  obtain ⟨rfl, rfl⟩ := trodVars_none hV
  have k0 := h0
  have lt0 : ∀ x ∈ p0, x.block < W.heap.size := by obtain ⟨m, hm⟩ := k0; exact DataW.trod_lt m _ _ _ hm
  have wt0 : ∀ n ∈ d0.weights Tryd.prog 25, n ≤ reachBytes := fun n hn => by
    have := List.all_eq_true.1 hreach n (DataW.weights_mem_each (j := 0) rfl rfl n hn)
    simpa using this
  obtain ⟨xk0, xc0, xm0, xa0, xn0, xp0, xz0, xs0, ya0, yn0, yp0, yz0, rfl, w0⟩ := open_tok (hval 0 25 v0 rfl rfl) h0 wt0
  clear hA0 hval0
  refine (walk xk0 xc0 xm0 xa0 xn0 xp0 xz0 xs0 ya0 yn0 yp0 yz0 W w0 hlaid hsh).mono fun e W' ⟨he, bel0⟩ => ?_
  have bel : Below W.heap.size W W' := bel0
  subst he
  exact ⟨_, rfl, _, _, _, [], _, [], hW', trodAll_mk1 (shut_bool Tryd.underlying4 _), (trodAll_cons_mk (Below.trod laidOut (by kernel_rfl) (of_decide_eq_true (by kernel_rfl)) k0 bel lt0) trodAll_mk0), rfl, bel.frame _, fun h => by cases h⟩

theorem over : Rows.tokenKeepsRow.holds Tryd.pinned (OpenSpec.ofChange Rows.tokenKeepsSpec) :=
  OpenClaim.holds_of_wide 6 Tryd.f6 rfl rfl rfl rfl rfl rfl rfl ⟨rfl, rfl, rfl, rfl, rfl⟩ rfl rfl rfl rfl rfl (by kernel_rfl) Tryd.func6 (by kernel_rfl)
    (of_decide_eq_true (by kernel_rfl)) (by unfold Func.isWrapper; first | (rw [if_pos (by decide +kernel)]; kernel_rfl) | (rw [if_neg (by decide +kernel)]; exact ⟨rfl, rfl⟩))
    (fun os started H enc _ => lifted os started H enc)

theorem proved : Rows.TokenKeepsCardSaid :=
  Claim7.holds_tied_plain_at .later [] [.data, .data, .data] true (true, "d78fac03b1f362b72c532fc000e0a56f81866888e4a444c7d17d60e8e6ebb1fb") false
    over (fun _ h => by cases h) (by kernel_rfl) (fun _ h => by cases h) tokenKeeps_row_tie rfl ⟨rfl, rfl⟩ (by kernel_rfl) rfl
    (fun f fn hf hfn => by
      obtain rfl : f = 6 := Option.some.inj ((show Tryd.prog.funcNamed "phosphor/phosphorlaw11.TokenKeeps" = some 6 by kernel_rfl).symm.trans hf) |>.symm
      obtain rfl : fn = Tryd.f6 := (Option.some.inj (Tryd.func6.symm.trans hfn)).symm
      exact ⟨by kernel_rfl, fun j t ht => by
        rw [Tryd.params6] at ht
        have hm : t ∈ [25] := by simpa using Array.mem_of_getElem? ht
        have hall : ([25].all fun u => !Tryd.prog.wantsStandIn u) = true := by kernel_rfl
        exact (show Tryd.prog.wantsStandIn t = false by simpa using List.all_eq_true.1 hall t hm)⟩)
    (by kernel_rfl)
#print axioms proved
end Go.Proofs.YtgbmjlajheeciaaDoor.tokenKeeps
