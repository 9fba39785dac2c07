/-
  Same of the macros' store; the store with a map or none (gen_mpl.py).
-/
import Derived.Test.YtaeppimldbknhaaZMpJ
namespace Go.Proofs.Ytaeppimldbknhaa
set_option linter.unusedSimpArgs false
set_option linter.unusedVariables false
open Go.RowKit Go.Maps
set_option linter.unusedVariables false

set_option maxRecDepth 100000 in
theorem equal_nil (w : World) : Calls Try.prog 33 #[.map none, .map none] w fun e w' => e = .returned (.bool true) ∧ Gr w w' := by
  refine calls_sx (n := 34) (args := [.map none, .map none]) Try.func33 rfl rfl rfl ?_
  have hs0 := SH.none w
  refine CW.seq ?_
  refine CW.region ?_
  refine SL.v (.bool false) ?_
  refine SL.nil ?_
  refine CW.seq ?_
  refine CW.seq ?_
  refine CW.region ?_
  refine SL.v (.map none) ?_
  refine SL.val (v := .int .i64 0) (w' := w) rfl rfl (by kernel_rfl) ?_
  refine SL.v (.map none) ?_
  refine SL.val (v := .int .i64 0) (w' := w) rfl rfl (by kernel_rfl) ?_
  refine SL.v (.bool false) ?_
  refine SL.nil ?_
  refine CW.cond_false (by kernel_rfl) ?_
  refine CW.skip ?_
  refine CW.seq ?_
  refine CW.seq ?_
  refine CW.region ?_
  refine SL.v (.map none) ?_
  refine SL.mpRangeNil (k := 3) (el := 9) hs0 rfl rfl rfl rfl (by kernel_rfl) (fun r_1 w_2 hs_3 => ?_)
  have hs_3 : SH [] w w_2 [inH r_1] := hs_3
  refine SL.nil ?_
  refine CW.block ?_
  refine CW.loopN 1 ?_
  refine CR.more ?_
  refine CW.seq ?_
  refine CW.region ?_
  refine SL.mpNextNil (i := 0) hs_3 rfl rfl rfl (by kernel_rfl) rfl ?_
  refine SL.v (.bool false) ?_
  refine SL.nil ?_
  refine CW.seq ?_
  refine CW.cond_false (by kernel_rfl) ?_
  refine CW.exit ?_
  repeat with_reducible first | refine PThen.exit ?_ | refine PBlock.out rfl ?_
  with_reducible refine PBlock.here ?_
  repeat with_reducible refine PBlock.normal ?_
  refine CW.seq ?_
  refine CW.region ?_
  refine SL.v (.bool true) ?_
  refine SL.nil ?_
  refine CW.ret ?_
  repeat with_reducible first | refine PThen.ret ?_ | refine PBlock.ret ?_
  refine PRet.tmp (t := 4) (v := .bool true) rfl rfl (by kernel_rfl) ?_
  exact ⟨rfl, hs_3.gr⟩
set_option maxRecDepth 100000 in
theorem same_nil (g g2 : Nat) (w : World) : Tr Try.prog 15 #[.pointer (some ⟨g, 0, none⟩), .pointer (some ⟨g2, 0, none⟩)] w [pt g #[.map none] 35, pt g2 #[.map none] 35] (fun v Q => v = .bool true ∧ Q = [pt g #[.map none] 35, pt g2 #[.map none] 35]) := by
  refine Tr.of fun U hs0 => ?_
  refine calls_sx (n := 14) (args := [.pointer (some ⟨g, 0, none⟩), .pointer (some ⟨g2, 0, none⟩)]) Try.func15 rfl rfl rfl ?_
  refine CW.seq ?_
  refine CW.region ?_
  refine SL.v (.bool false) ?_
  refine SL.nil ?_
  refine CW.seq ?_
  have HGR : GrL [fun v _ => v = .pointer (some ⟨g, 0, none⟩), fun v _ => v = .pointer (some ⟨g, 0, none⟩), fun v _ => v = .pointer (some ⟨g, 0, none⟩), fun v _ => v = .map none, fun v _ => v = .pointer (some ⟨g2, 0, none⟩), fun v _ => v = .pointer (some ⟨g2, 0, none⟩), fun v _ => v = .pointer (some ⟨g2, 0, none⟩), fun v _ => v = .map none] := ⟨fun _ _ _ _ h => h, ⟨fun _ _ _ _ h => h, ⟨fun _ _ _ _ h => h, ⟨fun _ _ _ _ h => h, ⟨fun _ _ _ _ h => h, ⟨fun _ _ _ _ h => h, ⟨fun _ _ _ _ h => h, ⟨fun _ _ _ _ h => h, trivial⟩⟩⟩⟩⟩⟩⟩⟩
  refine CW.draw 8 (FW [fun v _ => v = .pointer (some ⟨g, 0, none⟩), fun v _ => v = .pointer (some ⟨g, 0, none⟩), fun v _ => v = .pointer (some ⟨g, 0, none⟩), fun v _ => v = .map none, fun v _ => v = .pointer (some ⟨g2, 0, none⟩), fun v _ => v = .pointer (some ⟨g2, 0, none⟩), fun v _ => v = .pointer (some ⟨g2, 0, none⟩), fun v _ => v = .map none]) (fun W => Gr w W) (by kernel_rfl) (by kernel_rfl) (by kernel_rfl) (by kernel_rfl) (by kernel_rfl) (Gr.refl _).drew ?_ ?_
  · refine ⟨?_, ⟨?_, ⟨?_, ⟨?_, ⟨?_, ⟨?_, ⟨?_, ⟨?_, trivial⟩⟩⟩⟩⟩⟩⟩⟩
    · intro L ys W hB hF hP K hK
      show OpE _ _ _ W K
      exact OpE.val (.pointer (some ⟨g, 0, none⟩)) W (by kernel_rfl) (hK _ W hB rfl (fun _ _ h => h))
    · intro L ys W hB hF hP K hK
      show OpE _ _ _ W K
      exact OpE.known (j := 0) (v := .pointer (some ⟨g, 0, none⟩)) (hF 0 (hP.1 rfl)) (OpE.val (.pointer (some ⟨g, 0, none⟩)) W (by kernel_rfl) (hK _ W hB rfl (fun _ _ h => h)))
    · intro L ys W hB hF hP K hK
      show OpE _ _ _ W K
      exact OpE.known (j := 1) (v := .pointer (some ⟨g, 0, none⟩)) (hF 1 (hP.1 rfl)) (OpE.val (.pointer (some ⟨g, 0, none⟩)) W (by kernel_rfl) (hK _ W hB rfl (fun _ _ h => h)))
    · intro L ys W hB hF hP K hK
      show OpE _ _ _ W K
      exact OpE.known (j := 2) (v := .pointer (some ⟨g, 0, none⟩)) (hF 2 (hP.1 rfl)) (OpE.load (g := g) (off := 0) (v := .map none) rfl (by kernel_rfl) ((hs0.grow hB).pt_at (i := 0) rfl) (by kernel_rfl) (hK _ W hB rfl (fun _ _ h => h)))
    · intro L ys W hB hF hP K hK
      show OpE _ _ _ W K
      exact OpE.val (.pointer (some ⟨g2, 0, none⟩)) W (by kernel_rfl) (hK _ W hB rfl (fun _ _ h => h))
    · intro L ys W hB hF hP K hK
      show OpE _ _ _ W K
      exact OpE.known (j := 4) (v := .pointer (some ⟨g2, 0, none⟩)) (hF 4 (hP.1 rfl)) (OpE.val (.pointer (some ⟨g2, 0, none⟩)) W (by kernel_rfl) (hK _ W hB rfl (fun _ _ h => h)))
    · intro L ys W hB hF hP K hK
      show OpE _ _ _ W K
      exact OpE.known (j := 5) (v := .pointer (some ⟨g2, 0, none⟩)) (hF 5 (hP.1 rfl)) (OpE.val (.pointer (some ⟨g2, 0, none⟩)) W (by kernel_rfl) (hK _ W hB rfl (fun _ _ h => h)))
    · intro L ys W hB hF hP K hK
      show OpE _ _ _ W K
      exact OpE.known (j := 6) (v := .pointer (some ⟨g2, 0, none⟩)) (hF 6 (hP.1 rfl)) (OpE.load (g := g2) (off := 0) (v := .map none) rfl (by kernel_rfl) ((hs0.grow hB).pt_at (i := 1) rfl) (by kernel_rfl) (hK _ W hB rfl (fun _ _ h => h)))
  · intro ys_4 w_1 hs_2 hF_3
    have hg_5 := hs_2
    have hs_2 : SH U w w_1 [pt g #[.map none] 35, pt g2 #[.map none] 35] := hs0.grow hg_5
    refine SL.knownY (j := 3) (v := .map none) (show ys_4 3 = .map none from hF_3 3 (by decide)) (SL.knownY (j := 7) (v := .map none) (show ys_4 7 = .map none from hF_3 7 (by decide)) (?_))
    clear hF_3 HGR
    refine SL.call (f := 33) (args := #[.map none, .map none]) (w1 := w_1) rfl rfl (by kernel_rfl) (equal_nil w_1) ?_
    rintro x w_6 ⟨rfl, hc_7⟩
    refine ⟨.bool true, rfl, ?_⟩
    have hs_8 := hs_2.grow hc_7
    refine SL.v (.bool true) ?_
    refine SL.nil ?_
    refine CW.ret ?_
    repeat with_reducible first | refine PThen.ret ?_ | refine PBlock.ret ?_
    refine PRet.tmp (t := 4) (v := .bool true) rfl rfl (by kernel_rfl) ?_
    exact ⟨_, _, rfl, ⟨rfl, rfl⟩, hs_8.pick [0, 0] rfl⟩

/-! ### a store with a map or none -/
def oH (ob : Option Nat) (n : Nat) (D : DataW Unit) : HA := match ob with
  | some b => mpH Try.prog 3 9 b n D
  | none => pure_ (D = .map [] ∧ n = 0)
theorem HSt.pureEnd {A : HA} {p : Prop} {w : World} {fp : List Nat} (h : HSt [A, pure_ p] w fp) : p ∧ HSt [A] w fp := by
  obtain ⟨f1, f2, rfl, h1, ⟨f3, f4, rfl, ⟨rfl, hp⟩, h4, _⟩, h5⟩ := h
  have h4 : f4 = [] := h4
  subst h4
  exact ⟨hp, f1, [], rfl, h1, rfl, by simp⟩
theorem HSt.addPure {p : Prop} (hp : p) : ∀ {l : List HA} {w : World} {fp : List Nat}, HSt l w fp → HSt (l ++ [pure_ p]) w fp
  | l, w, fp, h => by
    have := h.app (l' := [pure_ p]) (f' := []) ⟨[], [], rfl, ⟨rfl, hp⟩, rfl, by simp⟩ (by simp)
    simpa using this
theorem SH.addPure {U : List Nat} {w0 w : World} {As : List HA} {p : Prop} (h : SH U w0 w As) (hp : p) : SH U w0 w (As ++ [pure_ p]) := by
  obtain ⟨fp, h1, h2⟩ := h.st
  exact ⟨h.upd, fp, h1.addPure hp, h2⟩
theorem Tr.pureEnd {P : Program} {f : FuncId} {args : Array Value} {w : World} {A : HA} {p : Prop} {R R' : Value → List HA → Prop} (h : p → Tr P f args w [A] R) (hR : p → ∀ v Q, R v Q → R' v Q ∨ R' v (Q ++ [pure_ p])) : Tr P f args w [A, pure_ p] R' := fun fp hfp => by
  obtain ⟨hp, h1⟩ := hfp.pureEnd
  refine (h hp fp h1).mono fun e w' hx => ?_
  obtain ⟨v, Q, fp', rfl, hv, hq, hu, hf⟩ := hx
  rcases hR hp v Q hv with hv | hv
  · exact ⟨v, Q, fp', rfl, hv, hq, hu, hf⟩
  · exact ⟨v, _, fp', rfl, hv, hq.addPure hp, hu, hf⟩
structure OOk (n : Nat) (D : DataW Unit) : Prop where
  ok : MapOk D
  size : Maps.size D ≤ n
theorem ownSize {w : World} {b n : Nat} {D : DataW Unit} (h : w.ownsMap Try.prog 3 (plainElem Try.prog 9) b n D) : OOk n D := by
  refine ⟨⟨h.entries keyI⟩, ?_⟩
  obtain ⟨es, clock, hb, F, hs, rfl⟩ := h
  show (List.foldr DataW.insert [] _).length ≤ n
  rw [length_sorted]
  simpa using hs
theorem SH.oOk {U : List Nat} {w0 w : World} {As : List HA} (h : SH U w0 w As) {i : Nat} {ob : Option Nat} {n : Nat} {D : DataW Unit} (hi : As[i]? = some (oH ob n D)) : OOk n D := by
  cases ob with
  | some b => exact ownSize (h.map_at hi)
  | none =>
    obtain ⟨fp, ⟨f1, f2, rfl, h1, _⟩, _⟩ := (h.perm (perm_erase hi)).st
    obtain ⟨_, rfl, rfl⟩ := h1
    exact ⟨⟨[], rfl, List.Pairwise.nil, by simp⟩, Nat.le_refl _⟩
theorem space_o (g : Nat) (ob : Option Nat) (n : Nat) (D : DataW Unit) (w : World) (hk : OOk n D) (hb : totD D ≤ 6144) : Tr Try.prog 13 #[.pointer (some ⟨g, 0, none⟩)] w [pt g #[.map ob] 35, oH ob n D] (fun v Q => v = .int .i64 (6144 - ((totD D : Nat) : Int)) ∧ Q = [pt g #[.map ob] 35, oH ob n D]) := by
  cases ob with
  | some b => exact space_map g b n D w hk.ok hb
  | none =>
    refine Tr.pureEnd (fun hp => space_nil g w) fun hp v Q h => ?_
    obtain ⟨rfl, rfl⟩ := hp
    exact .inr ⟨h.1, by rw [h.2]; rfl⟩
theorem sclone_o (g : Nat) (ob : Option Nat) (n : Nat) (D : DataW Unit) (w : World) : Tr Try.prog 14 #[.pointer (some ⟨g, 0, none⟩)] w [pt g #[.map ob] 35, oH ob n D] (fun v Q => ∃ g2 ob2, v = .pointer (some ⟨g2, 0, none⟩) ∧ ob2.isSome = ob.isSome ∧ Q = [pt g2 #[.map ob2] 35, oH ob2 n D, pt g #[.map ob] 35, oH ob n D]) := by
  cases ob with
  | some b => exact (sclone_map g b n D w).mono fun v Q ⟨g2, b2, h1, h2⟩ => ⟨g2, some b2, h1, rfl, h2⟩
  | none =>
    intro fp hfp
    obtain ⟨hp, h1⟩ := hfp.pureEnd
    refine (sclone_nil g w fp h1).mono fun e w' hx => ?_
    obtain ⟨v, Q, fp', rfl, ⟨g2, rfl, rfl⟩, hq, hu, hf⟩ := hx
    obtain ⟨f1, f2, rfl, q1, q2, q3⟩ := hq
    refine ⟨_, _, f1 ++ f2, rfl, ⟨g2, none, rfl, rfl, rfl⟩, ⟨f1, f2, rfl, q1, ⟨[], f2, rfl, ⟨rfl, hp⟩, q2.addPure hp, by simp⟩, q3⟩, hu, hf⟩
end Go.Proofs.Ytaeppimldbknhaa
