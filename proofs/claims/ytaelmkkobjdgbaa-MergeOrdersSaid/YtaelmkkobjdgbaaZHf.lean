/-
  Pieces of memory: what lies where, and that pieces lie apart.
  The calculus over pieces of memory.
  The calculus: texts, places in rows, parts of rows.
  Rows of one's own that may be empty, as pieces of memory.
  Regions that draw their order, with one operation that changes memory.
  Regions that draw their order, with a block of their own that is stored to.
-/
import Derived.Test.YtaelmkkobjdgbaaZPw
import Derived.Test.YtaelmkkobjdgbaaZSrc
import Derived.Test.YtaelmkkobjdgbaaZSq
namespace Go.Proofs.Ytaelmkkobjdgbaa
set_option linter.unusedSimpArgs false
set_option linter.unusedVariables false
open Go.RowKit
set_option linter.unusedVariables false

/-- A piece of memory: its blocks, and what is known of them. -/
structure HA where
  at_ : World → List Nat → Prop
  keep : ∀ w w' fp, at_ w fp → (∀ g ∈ fp, w'.heap[g]? = w.heap[g]?) → at_ w' fp
  live : ∀ w fp, at_ w fp → ∀ g ∈ fp, g < w.heap.size

theorem heap_lt {w : World} {g : Nat} {o : Obj} (h : w.heap[g]? = some o) : g < w.heap.size := (Array.getElem?_eq_some_iff.1 h).1
/-- One block, whole. -/
def ptf (g : Nat) (C : Array Value) (T : TypeId) (fr : Nat × Nat) : HA where
  at_ w fp := fp = [g] ∧ w.heap[g]? = some (.cells C T fr)
  keep w w' fp h hk := ⟨h.1, (hk g (by rw [h.1]; simp)).trans h.2⟩
  live w fp h g' hg := by rw [h.1] at hg; simp at hg; subst hg; exact heap_lt h.2
abbrev pt (g : Nat) (C : Array Value) (T : TypeId) : HA := ptf g C T (0, 0)
/-- Pieces that lie apart. -/
def HSt : List HA → World → List Nat → Prop
  | [], _, fp => fp = []
  | A :: l, w, fp => ∃ f1 f2, fp = f1 ++ f2 ∧ A.at_ w f1 ∧ HSt l w f2 ∧ ∀ g ∈ f1, g ∉ f2
theorem HSt.keep : ∀ (l : List HA) (w w' : World) (fp : List Nat), HSt l w fp → (∀ g ∈ fp, w'.heap[g]? = w.heap[g]?) → HSt l w' fp
  | [], _, _, _, h, _ => h
  | A :: l, w, w', fp, ⟨f1, f2, e, h1, h2, h3⟩, hk => by
    subst e
    exact ⟨f1, f2, rfl, A.keep w w' f1 h1 fun g hg => hk g (List.mem_append_left _ hg), HSt.keep l w w' f2 h2 fun g hg => hk g (List.mem_append_right _ hg), h3⟩
theorem HSt.live : ∀ (l : List HA) (w : World) (fp : List Nat), HSt l w fp → ∀ g ∈ fp, g < w.heap.size
  | [], _, _, h, g, hg => by rw [show _ = _ from h] at hg; simp at hg
  | A :: l, w, fp, ⟨f1, f2, e, h1, h2, h3⟩, g, hg => by
    subst e
    rcases List.mem_append.1 hg with hg | hg
    · exact A.live w f1 h1 g hg
    · exact HSt.live l w f2 h2 g hg
theorem HSt.app : ∀ {l l' : List HA} {w : World} {f f' : List Nat}, HSt l w f → HSt l' w f' → (∀ g ∈ f, g ∉ f') → HSt (l ++ l') w (f ++ f')
  | [], l', w, f, f', h, h', _ => by rw [show f = [] from h]; simpa using h'
  | A :: l, l', w, f, f', ⟨f1, f2, e, h1, h2, h3⟩, h', hd => by
    subst e
    refine ⟨f1, f2 ++ f', by simp, h1, h2.app h' fun g hg => hd g (List.mem_append_right _ hg), fun g hg hm => ?_⟩
    rcases List.mem_append.1 hm with hm | hm
    · exact h3 g hg hm
    · exact hd g (List.mem_append_left _ hg) hm
theorem HSt.split : ∀ {l l' : List HA} {w : World} {f : List Nat}, HSt (l ++ l') w f → ∃ f1 f2, f = f1 ++ f2 ∧ HSt l w f1 ∧ HSt l' w f2 ∧ ∀ g ∈ f1, g ∉ f2
  | [], l', w, f, h => ⟨[], f, rfl, rfl, h, by simp⟩
  | A :: l, l', w, f, ⟨f1, f2, e, h1, h2, h3⟩ => by
    obtain ⟨f3, f4, e2, h4, h5, h6⟩ := HSt.split h2
    subst e; subst e2
    refine ⟨f1 ++ f3, f4, by simp, ⟨f1, f3, rfl, h1, h4, fun g hg hm => h3 g hg (List.mem_append_left _ hm)⟩, h5, fun g hg hm => ?_⟩
    rcases List.mem_append.1 hg with hg | hg
    · exact h3 g hg (List.mem_append_right _ hm)
    · exact h6 g hg hm
theorem HSt.perm {l l' : List HA} (hp : l.Perm l') : ∀ {w : World} {fp : List Nat}, HSt l w fp → ∃ fp', HSt l' w fp' ∧ ∀ g, g ∈ fp' ↔ g ∈ fp := by
  induction hp with
  | nil => exact fun h => ⟨_, h, fun _ => Iff.rfl⟩
  | cons x _ ih =>
    rintro w fp ⟨f1, f2, rfl, h1, h2, h3⟩
    obtain ⟨f2', h4, h5⟩ := ih h2
    exact ⟨f1 ++ f2', ⟨f1, f2', rfl, h1, h4, fun g hg hm => h3 g hg ((h5 g).1 hm)⟩, fun g => by simp [h5]⟩
  | swap x y l =>
    rintro w fp ⟨f1, f2, rfl, h1, ⟨f3, f4, rfl, h3, h4, h5⟩, h6⟩
    refine ⟨f3 ++ (f1 ++ f4), ⟨f3, f1 ++ f4, rfl, h3, ⟨f1, f4, rfl, h1, h4, fun g hg hm => h6 g hg (List.mem_append_right _ hm)⟩, fun g hg hm => ?_⟩, fun g => by simp only [List.mem_append]; constructor <;> (rintro (h | h | h) <;> simp [h])⟩
    rcases List.mem_append.1 hm with hm | hm
    · exact h6 g hm (List.mem_append_left _ hg)
    · exact h5 g hg hm
  | trans _ _ i1 i2 =>
    intro w fp h
    obtain ⟨f1, h1, e1⟩ := i1 h
    obtain ⟨f2, h2, e2⟩ := i2 h1
    exact ⟨f2, h2, fun g => (e2 g).trans (e1 g)⟩
/-- Some pieces are taken out, by their places (each in what is left). -/
def pickL {α : Type} : List Nat → List α → Option (List α × List α)
  | [], l => some ([], l)
  | i :: is, l => match l[i]? with
    | none => none
    | some a => (pickL is (l.eraseIdx i)).map fun r => (a :: r.1, r.2)
theorem perm_erase {α : Type} : ∀ {l : List α} {i : Nat} {a : α}, l[i]? = some a → l.Perm (a :: l.eraseIdx i)
  | [], i, a, h => by simp at h
  | x :: l, 0, a, h => by simp at h; subst h; exact List.Perm.refl _
  | x :: l, i + 1, a, h => by
    simp at h
    exact ((perm_erase h).cons x).trans (List.Perm.swap _ _ _)
theorem pickL_perm {α : Type} : ∀ (is : List Nat) (l : List α) (a b : List α), pickL is l = some (a, b) → l.Perm (a ++ b)
  | [], l, a, b, h => by simp only [pickL, Option.some.injEq, Prod.mk.injEq] at h; obtain ⟨rfl, rfl⟩ := h; exact List.Perm.refl _
  | i :: is, l, a, b, h => by
    unfold pickL at h
    cases hi : l[i]? with
    | none => rw [hi] at h; cases h
    | some x =>
      rw [hi] at h
      simp only [Option.map_eq_some_iff, Prod.mk.injEq] at h
      obtain ⟨⟨c, d⟩, h1, h2, h3⟩ := h
      subst h2; subst h3
      exact (perm_erase hi).trans ((pickL_perm is _ _ _ h1).cons x)

/-- The memory at hand: pieces of the call's own, or of blocks that it may change. -/
structure SH (U : List Nat) (w0 w : World) (As : List HA) : Prop where
  upd : Upd U w0 w
  st : ∃ fp, HSt As w fp ∧ ∀ g ∈ fp, w0.heap.size ≤ g ∨ g ∈ U
section
variable {U : List Nat} {w0 w w' : World} {As : List HA}
theorem SH.init {As : List HA} {w : World} {fp : List Nat} (h : HSt As w fp) : SH fp w w As := ⟨Upd.refl _ _, fp, h, fun _ hg => .inr hg⟩
theorem SH.none (w : World) : SH [] w w [] := ⟨Upd.refl _ _, [], rfl, by simp⟩
theorem Upd.toGr (h : Upd [] w w') : Gr w w' := ⟨h.os, h.tape, h.output, h.size, fun k hk => h.block k hk (by simp)⟩
theorem SH.gr (h : SH [] w0 w As) : Gr w0 w := h.upd.toGr
theorem SH.grow (h : SH U w0 w As) (hg : Gr w w') : SH U w0 w' As := by
  obtain ⟨fp, h1, h2⟩ := h.st
  exact ⟨h.upd.gr hg, fp, h1.keep _ _ _ _ fun g hm => hg.block g (h1.live _ _ _ g hm), h2⟩
theorem SH.drew (h : SH U w0 w As) : SH U w0 w.drew As := h.grow (Gr.refl _).drew
theorem SH.perm {As' : List HA} (h : SH U w0 w As) (hp : As.Perm As') : SH U w0 w As' := by
  obtain ⟨fp, h1, h2⟩ := h.st
  obtain ⟨fp', h3, h4⟩ := h1.perm hp
  exact ⟨h.upd, fp', h3, fun g hg => h2 g ((h4 g).1 hg)⟩
theorem SH.ptf_at (h : SH U w0 w As) {i g : Nat} {C : Array Value} {T : TypeId} {fr : Nat × Nat} (hi : As[i]? = some (ptf g C T fr)) : w.heap[g]? = some (.cells C T fr) := by
  obtain ⟨fp, ⟨f1, f2, rfl, h1, _⟩, _⟩ := (h.perm (perm_erase hi)).st
  exact h1.2
theorem SH.pt_at (h : SH U w0 w As) {i g : Nat} {C : Array Value} {T : TypeId} (hi : As[i]? = some (pt g C T)) : w.heap[g]? = some (.cells C T (0, 0)) := h.ptf_at hi
theorem set_perm {α : Type} {l : List α} {i : Nat} {a : α} (h : i < l.length) : (a :: l.eraseIdx i).Perm (l.set i a) := by
  have h1 : (l.set i a)[i]? = some a := by simp [h]
  have := perm_erase h1
  rw [List.eraseIdx_set_eq] at this
  exact this.symm
/-- One piece is changed. -/
theorem SH.change (h : SH U w0 w As) {i : Nat} {A A' : HA} (hi : As[i]? = some A) (hg : ∀ f1, A.at_ w f1 → Upd f1 w w' ∧ A'.at_ w' f1) : SH U w0 w' (As.set i A') := by
  obtain ⟨fp, ⟨f1, f2, rfl, h1, h2, h3⟩, h4⟩ := (h.perm (perm_erase hi)).st
  obtain ⟨k1, k2⟩ := hg f1 h1
  have hil : i < As.length := (List.getElem?_eq_some_iff.1 hi).1
  have hst : HSt (A' :: As.eraseIdx i) w' (f1 ++ f2) := ⟨f1, f2, rfl, k2, h2.keep _ _ _ _ fun g hg => k1.block g (h2.live _ _ _ g hg) fun hm => h3 g hm hg, h3⟩
  refine SH.perm ⟨?_, f1 ++ f2, hst, h4⟩ (set_perm hil)
  · refine ⟨k1.os.trans h.upd.os, k1.tape.trans h.upd.tape, k1.output.trans h.upd.output, Nat.le_trans h.upd.size k1.size, fun k hk hn => ?_⟩
    rw [k1.block k (Nat.lt_of_lt_of_le hk h.upd.size) fun hm => ?_]
    · exact h.upd.block k hk hn
    · rcases h4 k (List.mem_append_left _ hm) with h5 | h5
      · omega
      · exact hn h5
theorem SH.setCells (h : SH U w0 w As) {i g : Nat} {C : Array Value} {T : TypeId} (hi : As[i]? = some (pt g C T)) (off : Nat) (vs : List Value) : SH U w0 (w.setCells g off vs) (As.set i (pt g (setL C off vs) T)) := by
  obtain ⟨k1, k2, k3⟩ := setCells_blk (t := T) vs off w C (h.pt_at hi)
  exact h.change hi fun f1 hf => by rw [show f1 = [g] from hf.1]; exact ⟨k2, rfl, k1⟩
/-- New memory. -/
theorem SH.add (h : SH U w0 w As) {g : Nat} {C : Array Value} {T : TypeId} (hb : w.heap[g]? = some (.cells C T (0, 0))) (hg : w0.heap.size ≤ g) (hn : ∀ fp, HSt As w fp → (∀ g ∈ fp, w0.heap.size ≤ g ∨ g ∈ U) → g ∉ fp) : SH U w0 w (As ++ [pt g C T]) := by
  obtain ⟨fp, h1, h2⟩ := h.st
  refine ⟨h.upd, fp ++ [g], h1.app ⟨[g], [], rfl, ⟨rfl, hb⟩, rfl, by simp⟩ fun k hk hm => ?_, fun k hk => ?_⟩
  · simp at hm; subst hm; exact hn fp h1 h2 hk
  · rcases List.mem_append.1 hk with hk | hk
    · exact h2 k hk
    · simp at hk; subst hk; exact .inl hg
/-- Memory that a step has made. -/
theorem SH.fresh (h : SH U w0 w As) (hg : Gr w w') {g : Nat} {C : Array Value} {T : TypeId} (hb : w'.heap[g]? = some (.cells C T (0, 0))) (hge : w.heap.size ≤ g) : SH U w0 w' (As ++ [pt g C T]) := by
  obtain ⟨fp, h1, h2⟩ := h.st
  have hlive := h1.live
  refine ⟨h.upd.gr hg, fp ++ [g], (h1.keep _ _ _ _ fun k hm => hg.block k (hlive k hm)).app ⟨[g], [], rfl, ⟨rfl, hb⟩, rfl, by simp⟩ fun k hk hm => ?_, fun k hk => ?_⟩
  · simp at hm; subst hm; have := hlive k hk; omega
  · rcases List.mem_append.1 hk with hk | hk
    · exact h2 k hk
    · simp at hk; subst hk; exact .inl (Nat.le_trans h.upd.size hge)
theorem SH.alloc (h : SH U w0 w As) (C : Array Value) (T : TypeId) : SH U w0 (w.alloc (.cells C T)) (As ++ [pt w.heap.size C T]) :=
  h.fresh ((Gr.refl w).alloc _) (heap_alloc_new _ _) (Nat.le_refl _)
theorem SH.drop (h : SH U w0 w As) (i : Nat) (hi : i < As.length) : SH U w0 w (As.eraseIdx i) := by
  have hi' : As[i]? = some As[i] := by simp [hi]
  obtain ⟨fp, ⟨f1, f2, rfl, h1, h2, h3⟩, h4⟩ := (h.perm (perm_erase hi')).st
  exact ⟨h.upd, f2, h2, fun g hg => h4 g (List.mem_append_right _ hg)⟩
end
theorem SH.pick {U : List Nat} {w0 w : World} {As Pre Rest : List HA} (h : SH U w0 w As) (is : List Nat) (hp : pickL is As = some (Pre, Rest)) : SH U w0 w Pre := by
  obtain ⟨fp, h1, h2⟩ := (h.perm (pickL_perm is As Pre Rest hp)).st
  obtain ⟨f1, f2, rfl, h3, h4, h5⟩ := h1.split
  exact ⟨h.upd, f1, h3, fun g hg => h2 g (List.mem_append_left _ hg)⟩
/-- A function's contract over pieces of memory: those it takes, and those it leaves. -/
def Tr (P : Program) (f : FuncId) (args : Array Value) (w : World) (Pre : List HA) (R : Value → List HA → Prop) : Prop :=
  ∀ fp, HSt Pre w fp → Calls P f args w fun e w' => ∃ v Q fp', e = .returned v ∧ R v Q ∧ HSt Q w' fp' ∧ Upd fp w w' ∧ ∀ g ∈ fp', g ∈ fp ∨ w.heap.size ≤ g
/-- .. and what follows of memory without a call. -/
def Ent (Pre : List HA) (R : List HA → Prop) : Prop := ∀ w fp, HSt Pre w fp → ∃ Q fp', R Q ∧ HSt Q w fp' ∧ ∀ g ∈ fp', g ∈ fp
section
variable {U : List Nat} {w0 w w' : World} {As Pre Rest : List HA} {is : List Nat}
theorem SH.ent {R : List HA → Prop} (h : SH U w0 w As) (hp : pickL is As = some (Pre, Rest)) (he : Ent Pre R) : ∃ Q, R Q ∧ SH U w0 w (Q ++ Rest) := by
  obtain ⟨fp, h1, h2⟩ := (h.perm (pickL_perm is As Pre Rest hp)).st
  obtain ⟨f1, f2, rfl, h3, h4, h5⟩ := h1.split
  obtain ⟨Q, fp', hR, h6, h7⟩ := he w f1 h3
  refine ⟨Q, hR, h.upd, fp' ++ f2, h6.app h4 fun g hg => h5 g (h7 g hg), fun g hg => ?_⟩
  rcases List.mem_append.1 hg with hg | hg
  · exact h2 g (List.mem_append_left _ (h7 g hg))
  · exact h2 g (List.mem_append_right _ hg)
theorem SH.call {P : Program} {f : FuncId} {args : Array Value} {R : Value → List HA → Prop} (h : SH U w0 w As) (hp : pickL is As = some (Pre, Rest)) (ht : Tr P f args w Pre R) :
    Calls P f args w fun e w' => ∃ v Q, e = .returned v ∧ R v Q ∧ SH U w0 w' (Q ++ Rest) := by
  obtain ⟨fp, h1, h2⟩ := (h.perm (pickL_perm is As Pre Rest hp)).st
  obtain ⟨f1, f2, rfl, h3, h4, h5⟩ := h1.split
  refine (ht f1 h3).mono fun e w' hx => ?_
  obtain ⟨v, Q, fp', rfl, hR, h6, h7, h8⟩ := hx
  refine ⟨v, Q, rfl, hR, ?_, fp' ++ f2, h6.app (h4.keep _ _ _ _ fun g hg => h7.block g (h4.live _ _ _ g hg) fun hm => h5 g hm hg) fun g hg hm => ?_, fun g hg => ?_⟩
  · refine ⟨h7.os.trans h.upd.os, h7.tape.trans h.upd.tape, h7.output.trans h.upd.output, Nat.le_trans h.upd.size h7.size, fun k hk hn => ?_⟩
    rw [h7.block k (Nat.lt_of_lt_of_le hk h.upd.size) fun hm => ?_]
    · exact h.upd.block k hk hn
    · rcases h2 k (List.mem_append_left _ hm) with h9 | h9
      · omega
      · exact hn h9
  · rcases h8 g hg with h9 | h9
    · exact h5 g h9 hm
    · have := h4.live _ _ _ g hm; omega
  · rcases List.mem_append.1 hg with hg | hg
    · rcases h8 g hg with h9 | h9
      · exact h2 g (List.mem_append_left _ h9)
      · exact .inl (Nat.le_trans h.upd.size h9)
    · exact h2 g (List.mem_append_right _ hg)
/-- The end of a function that is told over pieces. -/
theorem Tr.of {P : Program} {f : FuncId} {args : Array Value} {R : Value → List HA → Prop} (h : ∀ U, SH U w w Pre → Calls P f args w fun e w' => ∃ v Q, e = .returned v ∧ R v Q ∧ SH U w w' Q) : Tr P f args w Pre R := fun fp hfp => by
  refine (h fp (SH.init hfp)).mono fun e w' hx => ?_
  obtain ⟨v, Q, rfl, hR, hs⟩ := hx
  obtain ⟨fp', h1, h2⟩ := hs.st
  exact ⟨v, Q, fp', rfl, hR, h1, hs.upd, fun g hg => (h2 g hg).symm⟩
theorem Tr.mono {P : Program} {f : FuncId} {args : Array Value} {R R' : Value → List HA → Prop} (h : Tr P f args w Pre R) (hr : ∀ v Q, R v Q → R' v Q) : Tr P f args w Pre R' := fun fp hfp => (h fp hfp).mono fun e w' hx => by
  obtain ⟨v, Q, fp', rfl, h1, h2⟩ := hx; exact ⟨v, Q, fp', rfl, hr _ _ h1, h2⟩
end
end Go.Proofs.Ytaelmkkobjdgbaa

namespace Go.Proofs.Ytaelmkkobjdgbaa
set_option linter.unusedSimpArgs false
set_option linter.unusedVariables false
open Go.RowKit
set_option linter.unusedVariables false

section
variable {P : Program} {n : Nat} {ops : Array Oper} {Q : Post} {l : List Oper} {e : Nat → Value} {w0 w : World} {o : Oper} {U : List Nat} {L As Pre Rest : List HA}
theorem SL.newH {mk : Nat → Value} {C : Array Value} {T : TypeId} (hs : SH U w0 w L) (hg : o.guard = none) (hd : dok n o.dst = true) (hrun : (execOp (evE e) o).run P w = .ok (.value (mk w.heap.size)) (w.alloc (.cells C T)))
    (h : ∀ g w', SH U w0 w' (L ++ [pt g C T]) → SL P n ops Q l (dput e o.dst (mk g)) w') : SL P n ops Q (o :: l) e w :=
  SL.val hg hd hrun (h _ _ (hs.alloc C T))
theorem SL.storeH {ty : TypeId} {x y : Operand} {i g off : Nat} {C C' : Array Value} {T : TypeId} {v : Value} {L' : List HA} (hs : SH U w0 w L) (hg : o.guard = none) (hd : o.dst = none) (ho : o.op = .store ty x y)
    (hx : evE e x = .pointer (some ⟨g, off, none⟩)) (hy : evE e y = v) (hL : L[i]? = some (pt g C T)) (hi : (P.info? ty).map (·.size) = some v.cells.size) (h1 : v.cells.all (·.oneCell') = true) (hroom : Nat.ble (off + v.cells.size) C.size = true)
    (hC : setL C off v.cells.toList = C') (hL' : L.set i (pt g C' T) = L') (h : ∀ w', SH U w0 w' L' → SL P n ops Q l e w') : SL P n ops Q (o :: l) e w := by
  subst hC; subst hL'; subst hy
  refine SL.skip hg hd ?_ (h _ (hs.setCells hL off _))
  unfold execOp
  simp only [ho, hx, Sem.run_bind, run_st (hs.pt_at hL) hi h1 hroom, Result.andThen_ok, Sem.run_pure]
/-- A call over pieces. -/
theorem SL.callH {f : FuncId} {args : Array Value} {R : Value → List HA → Prop} (is : List Nat) (hs : SH U w0 w As) (hg : o.guard = none) (hd : dok n o.dst = true) (hrun : (execOp (evE e) o).run P w = .ok (.enter f args) w)
    (hp : pickL is As = some (Pre, Rest)) (ht : Tr P f args w Pre R) (h : ∀ v Qs w', R v Qs → SH U w0 w' (Qs ++ Rest) → SL P n ops Q l (dput e o.dst v) w') : SL P n ops Q (o :: l) e w :=
  SL.call hg hd hrun (hs.call hp ht) fun x w' hx => by
    obtain ⟨v, Qs, rfl, hR, hs'⟩ := hx; exact ⟨v, rfl, h v Qs w' hR hs'⟩
/-- A loop by a relation, and what grows less. -/
theorem CW.loopI {c : Code} (I : Nat → (Nat → Value) → World → Prop) (h0 : ∃ i, I i e w)
    (round : ∀ i e w, I i e w → CW P n c (PThen (fun e' w' => ∃ i', I i' e' w' ∧ i' < i) Q) e w) : CW P n (.loop c) Q e w := by
  obtain ⟨i, h0⟩ := h0
  have key : ∀ k i e w, i < k → I i e w → CR P n c Q k e w := by
    intro k
    induction k with
    | zero => intro i e w hi; omega
    | succ k ih =>
      intro i e w hi hI
      refine (round i e w hI).mono fun x e' w' hx => ?_
      cases x with
      | normal =>
        obtain ⟨i', h1, h2⟩ := hx
        exact ih i' e' w' (by omega) h1
      | _ => exact hx
  exact CW.loopN (i + 1) (key _ i e w (Nat.lt_succ_self i) h0)
/-! ### append -/
theorem SH.app1 (h : SH U w0 w L) {i g : Nat} {C : Array Value} {T : TypeId} (hL : L[i]? = some (pt g C T)) {w' : World} {g' : Nat} {C' : Array Value} (hu : Upd [g] w w') (hb : w'.heap[g']? = some (.cells C' T (0, 0))) (hg : g' = g ∨ g' = w.heap.size) : SH U w0 w' (L.eraseIdx i ++ [pt g' C' T]) := by
  obtain ⟨fp, ⟨f1, f2, rfl, h1, h2, h3⟩, h4⟩ := (h.perm (perm_erase hL)).st
  have hf1 : f1 = [g] := h1.1
  subst hf1
  have hlive := h2.live
  refine ⟨?_, f2 ++ [g'], (h2.keep _ _ _ _ fun k hk => hu.block k (hlive k hk) fun hm => h3 k hm hk).app ⟨[g'], [], rfl, ⟨rfl, hb⟩, rfl, by simp⟩ fun k hk hm => ?_, fun k hk => ?_⟩
  · refine ⟨hu.os.trans h.upd.os, hu.tape.trans h.upd.tape, hu.output.trans h.upd.output, Nat.le_trans h.upd.size hu.size, fun k hk hn => ?_⟩
    rw [hu.block k (Nat.lt_of_lt_of_le hk h.upd.size) fun hm => ?_]
    · exact h.upd.block k hk hn
    · rcases h4 k (List.mem_append_left _ hm) with h5 | h5
      · omega
      · exact hn h5
  · simp at hm
    subst hm
    rcases hg with rfl | rfl
    · exact h3 _ (by simp) hk
    · have := hlive _ hk; omega
  · rcases List.mem_append.1 hk with hk | hk
    · exact h4 k (List.mem_append_right _ hk)
    · simp at hk
      subst hk
      rcases hg with rfl | rfl
      · exact h4 _ (by simp)
      · exact .inl h.upd.size
theorem run_appH {P : Program} (h : SH U w0 w L) {t tx ty e : TypeId} {z : Value} {size bytes : Nat} (ht : P.underlying t = some (.slice e)) (hinfo : (P.info? e).map (fun i => (i.zero, i.size, i.bytes)) = some (some z, size, bytes))
    (hzs : z.cells.size = size) (hsz : 0 < size) (hby : bytes ≤ 1000) {i g n cap : Nat} {xs pad : List Value} (hL : L[i]? = some (pt g ⟨xs ++ pad⟩ e)) (hx : xs.length = n * size) (hc : (xs ++ pad).length = cap * size) (hnc : n ≤ cap) (hcm : cap ≤ maxLen)
    {yv : Value} {m : Nat} {news : List Value} (hs : Src P size tx yv m news w) (hn : n + m ≤ 100000000) :
    ∃ g' cap' pad' w', (Builtin.append_ #[t, tx] ty #[.slice (some ⟨g, 0, none⟩) n cap, yv]).run P w = .ok (.slice (some ⟨g', 0, none⟩) (n + m) cap') w' ∧ SH U w0 w' (L.eraseIdx i ++ [pt g' ⟨(xs ++ news) ++ pad'⟩ e]) ∧
      ((xs ++ news) ++ pad').length = cap' * size ∧ n + m ≤ cap' ∧ cap' ≤ maxLen := by
  obtain ⟨i0, hi0, hz0, hz1, hz2⟩ := info_parts hinfo
  have hown : w.ownsRow 0 e size (.slice (some ⟨g, 0, none⟩) n cap) n xs := by
    refine ⟨hx, .inr ⟨g, cap, _, rfl, Nat.zero_le _, h.pt_at hL, hnc, hcm, by simpa using hc, ?_⟩⟩
    show (xs ++ pad).take (n * size) = xs
    rw [← hx]; exact List.take_left
  obtain ⟨v', w', hrun, h2, h3, h4⟩ := run_append_src_own (P := P) w 0 t tx ty e i0 z size bytes ht hi0 hz0 hz1 hz2 hzs hsz _ n xs hown yv m news hs (by simp only [maxLen]; omega)
    (by have : (n + m) * bytes ≤ (n + m) * 1000 := Nat.mul_le_mul_left _ hby; omega) (Nat.zero_le _)
  rcases h2.2 with ⟨rfl, _⟩ | ⟨g', cap', cur, rfl, hbg, hg', hnc', hcm', hcs, htake⟩
  · rcases h4 with h4 | h4 <;> simp [Value.ownBlock] at h4
  · have hcur : cur = ⟨(xs ++ news) ++ cur.toList.drop ((n + m) * size)⟩ := by
      apply Array.ext'
      show cur.toList = (xs ++ news) ++ cur.toList.drop ((n + m) * size)
      rw [← htake]; exact (List.take_append_drop _ _).symm
    refine ⟨g', cap', cur.toList.drop ((n + m) * size), w', hrun, ?_, ?_, hnc', hcm'⟩
    · rw [← hcur]
      refine h.app1 hL (by simpa [Value.ownBlock] using Upd.of_grown h3) hg' ?_
      rcases h4 with h4 | h4
      · simp only [Value.ownBlock, Option.some.injEq] at h4; exact .inl h4
      · simp only [Value.ownBlock, Option.some.injEq] at h4; exact .inr h4
    · have : cur.toList.length = cap' * size := by simpa using hcs
      rw [← htake, List.take_append_drop]; exact this
theorem run_appop {P : Program} {e : Nat → Value} {w : World} {o : Oper} {x y : Operand} {t tx : TypeId} {v yv v' : Value} {w' : World} (ho : o.op = .call { callee := .builtin .append, args := #[x, y], argTypes := #[t, tx] }) (hx : evE e x = v) (hy : evE e y = yv)
    (hr : (Builtin.append_ #[t, tx] o.type #[v, yv]).run P w = .ok v' w') : (execOp (evE e) o).run P w = .ok (.value v') w' := by
  subst hx; subst hy
  unfold execOp
  simp only [ho, resolve, invoke, builtin, Sem.run_bind, Sem.run_pure, Result.andThen_ok, List.map_toArray, List.map_cons, List.map_nil, hr]
theorem SL.appH {x y : Operand} {t tx el : TypeId} (hs : SH U w0 w L) (hg : o.guard = none) (hd : dok n o.dst = true) (ho : o.op = .call { callee := .builtin .append, args := #[x, y], argTypes := #[t, tx] }) {z : Value} {size bytes : Nat} (ht : P.underlying t = some (.slice el)) (hinfo : (P.info? el).map (fun i => (i.zero, i.size, i.bytes)) = some (some z, size, bytes))
    (hzs : z.cells.size = size) (hsz : Nat.blt 0 size = true) (hby : Nat.ble bytes 1000 = true) {i g k cap : Nat} {xs pad : List Value} (hx : evE e x = .slice (some ⟨g, 0, none⟩) k cap) (hL : L[i]? = some (pt g ⟨xs ++ pad⟩ el)) (hxl : xs.length = k * size) (hc : (xs ++ pad).length = cap * size) (hnc : k ≤ cap) (hcm : cap ≤ maxLen)
    {yv : Value} {m : Nat} {news : List Value} (hy : evE e y = yv) (hsr : Src P size tx yv m news w) (hn : k + m ≤ 100000000) {xs' : List Value} (hxs : xs ++ news = xs') {k' : Nat} (hk : k + m = k') {L' : List HA} (hL' : L.eraseIdx i = L')
    (H : ∀ g' cap' pad' w', SH U w0 w' (L' ++ [pt g' ⟨xs' ++ pad'⟩ el]) → (xs' ++ pad').length = cap' * size → k' ≤ cap' → cap' ≤ maxLen → SL P n ops Q l (dput e o.dst (.slice (some ⟨g', 0, none⟩) k' cap')) w') : SL P n ops Q (o :: l) e w := by
  subst hxs; subst hk; subst hL'
  obtain ⟨g', cap', pad', w', h1, h2, h3, h4, h5⟩ := run_appH (ty := o.type) hs ht hinfo hzs (by simpa using hsz) (by simpa using hby) hL hxl hc hnc hcm hsr hn
  exact SL.val hg hd (run_appop ho hx hy h1) (H g' cap' pad' w' h2 h3 h4 h5)
/-- A row as a source. -/
theorem srcH {P : Program} {w : World} {g off n cap size : Nat} {t el el' : TypeId} {cs : List Value} {C : Array Value} {fr : Nat × Nat} (ht : P.underlying t = some (.slice el)) (hb : w.heap[g]? = some (.cells C el' fr)) (hC : (C.toList.drop off).take (n * size) = cs) (hn : cs.length = n * size) (h1 : ∀ c ∈ cs, c.oneCell' = true) :
    Src P size t (.slice (some ⟨g, off, none⟩) n cap) n cs w :=
  Src.ofSlice w ht _ n cap cs hn (fun j v hv => by
    subst hC
    have hv' : C[off + j]? = some v := by
      rw [List.getElem?_take] at hv
      split at hv
      · rw [List.getElem?_drop] at hv; simpa using hv
      · cases hv
    have hc := cell_of_row hb _ v hv'
    have e : (⟨g, off, none⟩ : Addr).add j = ⟨g, off + j, none⟩ := by rcases j with _ | j <;> simp [Addr.add]
    rw [e]; exact hc) h1
end
end Go.Proofs.Ytaelmkkobjdgbaa

namespace Go.Proofs.Ytaelmkkobjdgbaa
set_option linter.unusedSimpArgs false
set_option linter.unusedVariables false
open Go.RowKit
set_option linter.unusedVariables false

/-- Texts alike? -/
def seqB (a b : ByteArray) : Bool := a.data.toList == b.data.toList
theorem seqB_self (a : ByteArray) : seqB a a = true := by simp [seqB]
theorem tol (a : ByteArray) : a.toList = a.data.toList := ByteArray.toList_eq a
section
variable {P : Program} {e : Nat → Value} {w : World} {o : Oper}
theorem run_streq {t t' : TypeId} {x y : Operand} {a b : ByteArray} (ho : o.op = .binOp .eql t x y t') (hx : evE e x = .string a) (hy : evE e y = .string b) : (execOp (evE e) o).run P w = .ok (.value (.bool (seqB a b))) w := by
  unfold execOp seqB
  simp [ho, hx, hy, eqGuard, binOp_string_eql, tol, Sem.run_bind, Result.andThen_ok, Sem.run_pure]
theorem sizeof_of {t : TypeId} {s : Nat} (h : (P.info? t).map (·.size) = some s) (w : World) : (sizeOf t).run P w = .ok s w := by
  cases hq : P.info? t with
  | none => simp [hq] at h
  | some j => simp [hq] at h; simp [sizeOf, typeInfo, hq, h]
/-- An element's place. -/
theorem run_ix {t : TypeId} {x y : Operand} {g off len cap size i : Nat} {q : IntKind} {I : Int} (ho : o.op = .indexAddr t x y) (hx : evE e x = .slice (some ⟨g, off, none⟩) len cap) (hy : evE e y = .int q I) (hI : I = (i : Int)) (ht : P.underlying t = some (.slice (P.elem t))) (hs : (P.info? (P.elem t)).map (·.size) = some size) (hi : i < len) :
    (execOp (evE e) o).run P w = .ok (.value (.pointer (some ⟨g, off + i * size, none⟩))) w := by
  subst hI
  have h1 : (0 : Int) ≤ (i : Int) ∧ (i : Int) < (len : Int) := by omega
  have e1 : (⟨g, off, none⟩ : Addr).add (i * size) = ⟨g, off + i * size, none⟩ := by simp [Addr.add]
  unfold execOp
  simp only [ho, hx, hy, Sem.run_bind, run_indexAt_slice w t _ len cap q _ ht, if_pos h1, sizeof_of hs, Result.andThen_ok, Int.toNat_natCast, e1, Sem.run_pure]
theorem run_to {t : TypeId} {x y : Operand} {g off len cap size : Nat} {q : IntKind} {I : Int} {i : Nat} (ho : o.op = .slice t x none (some y) none) (hx : evE e x = .slice (some ⟨g, off, none⟩) len cap) (hy : evE e y = .int q I) (hI : I = (i : Int))
    (ht : P.underlying t = some (.slice (P.elem t))) (hs : (P.info? (P.elem t)).map (·.size) = some size) (hi : i ≤ cap) :
    (execOp (evE e) o).run P w = .ok (.value (.slice (some ⟨g, off, none⟩) i cap)) w := by
  subst hI
  have e1 : sliced (some (⟨g, off, none⟩ : Addr)) 0 i cap size = .slice (some ⟨g, off, none⟩) i cap := by
    unfold sliced
    by_cases hm : cap = 0
    · rw [if_pos hm]; rfl
    · rw [if_neg hm]; simp [Addr.add]
  unfold execOp
  simp only [ho, hx, hy, Option.map_some, Option.map_none, run_sliceAt_slice w t _ _ _ _ ht, Sem.run_bind, run_slice_h w t _ len cap ht q (i : Int) (by omega) (by omega), Int.toNat_natCast, sizeof_of hs, Result.andThen_ok, e1, Sem.run_pure]
end
/-! ### What is read from a row -/
/-- A variable of one cell, read. -/
theorem ldV_one {P : Program} {ty : TypeId} {C : Array Value} {off : Nat} {v : Value} (hu : (P.underlying ty).map (·.isRow) = some false) (hi : ((P.info? ty).map (·.size)).isSome = true) (h : C[off]? = some v) : ldV P ty C off = some v := by
  unfold ldV
  cases h1 : P.underlying ty with
  | none => rw [h1] at hu; cases hu
  | some d =>
    rw [h1] at hu
    simp only [Option.map_some, Option.some.injEq] at hu
    cases h2 : (P.info? ty).map (·.size) with
    | none => rw [h2] at hi; cases hi
    | some k => simp only [hu]; exact h
/-- A struct, read. -/
theorem ldV_row {P : Program} {ty : TypeId} {C : Array Value} {off k : Nat} {cs : List Value} (hu : (P.underlying ty).map (·.isRow) = some true) (hi : (P.info? ty).map (·.size) = some k) (h : (C.toList.drop off).take k = cs) (hl : cs.length = k) (hk : Nat.blt 0 k = true) : ldV P ty C off = some (.agg cs.toArray) := by
  have hk' : 0 < k := by simpa using hk
  unfold ldV
  cases h1 : P.underlying ty with
  | none => rw [h1] at hu; cases hu
  | some d =>
    rw [h1] at hu
    simp only [Option.map_some, Option.some.injEq] at hu
    rw [hi]
    have hb : Nat.ble (off + k) C.size = true := by
      subst h
      simp at hl
      simp
      omega
    simp only [hu, if_true, hb, h]
section
variable {P : Program} {e : Nat → Value} {w : World} {o : Oper}
theorem run_streqB {t t' : TypeId} {x y : Operand} {a b : ByteArray} {c : Bool} (ho : o.op = .binOp .eql t x y t') (hx : evE e x = .string a) (hy : evE e y = .string b) (h : seqB a b = c) : (execOp (evE e) o).run P w = .ok (.value (.bool c)) w := by
  rw [← h]; exact run_streq ho hx hy
end
section
variable {P : Program} {e : Nat → Value} {w : World} {o : Oper}
end
theorem run_conv {P : Program} {e : Nat → Value} {w : World} {o : Oper} {s d : TypeId} {x : Operand} {v v' : Value} (ho : o.op = .convert s d x) (hx : evE e x = v) (hr : (convert s d v).run P w = .ok v' w) : (execOp (evE e) o).run P w = .ok (.value v') w := by
  subst hx
  unfold execOp
  simp only [ho, Sem.run_bind, hr, Result.andThen_ok, Sem.run_pure]
theorem bcells_len (l : List Int) : (bcells l).length = l.length * 1 := by simp [bcells]
end Go.Proofs.Ytaelmkkobjdgbaa

namespace Go.Proofs.Ytaelmkkobjdgbaa
set_option linter.unusedSimpArgs false
set_option linter.unusedVariables false
open Go.RowKit
set_option linter.unusedVariables false

theorem ownsRow_keep {w w' : World} {B T size n : Nat} {v : Value} {xs : List Value} (h : w.ownsRow B T size v n xs) (hk : ∀ g ∈ v.ownBlock.toList, w'.heap[g]? = w.heap[g]?) : w'.ownsRow B T size v n xs := by
  obtain ⟨h1, h2 | ⟨g, cap, cur, rfl, h3, h4, h5⟩⟩ := h
  · exact ⟨h1, .inl h2⟩
  · exact ⟨h1, .inr ⟨g, cap, cur, rfl, h3, (hk g (by simp [Value.ownBlock])).trans h4, h5⟩⟩
/-- A row: nothing, or a block from its first cell on. -/
def rowH (T : TypeId) (size : Nat) (a : Option Addr) (n c : Nat) (xs : List Value) : HA where
  at_ w fp := w.ownsRow 0 T size (.slice a n c) n xs ∧ fp = (Value.slice a n c).ownBlock.toList
  keep w w' fp h hk := ⟨ownsRow_keep h.1 (by rw [← h.2]; exact hk), h.2⟩
  live w fp h g hg := by
    obtain ⟨⟨h1, h2 | ⟨g', cap, cur, hv, h3, h4, h5⟩⟩, rfl⟩ := h
    · rw [h2.1] at hg; simp [Value.ownBlock] at hg
    · rw [hv] at hg; simp [Value.ownBlock] at hg; subst hg; exact heap_lt h4
theorem PRet.none {P : Program} {n : Nat} {e : Nat → Value} {w : World} {fn : Func} {R : Ending → World → Prop} (hr : fn.results = #[]) (h : R (.returned (.tuple #[])) w) : PRet P n fn R .normal e w := ⟨_, by simp [results, hr], h⟩
section
variable {P : Program} {n : Nat} {ops : Array Oper} {Q : Post} {l : List Oper} {e : Nat → Value} {w0 w w' : World} {o : Oper} {U : List Nat} {L As : List HA}
theorem SH.get (h : SH U w0 w As) {i : Nat} {A : HA} (hi : As[i]? = some A) : ∃ f, A.at_ w f := by
  obtain ⟨fp, ⟨f1, f2, rfl, h1, _⟩, _⟩ := (h.perm (perm_erase hi)).st
  exact ⟨f1, h1⟩
theorem SH.row_at (h : SH U w0 w As) {i T size m c : Nat} {a : Option Addr} {xs : List Value} (hi : As[i]? = some (rowH T size a m c xs)) : w.ownsRow 0 T size (.slice a m c) m xs := by
  obtain ⟨f, h1⟩ := h.get hi; exact h1.1
/-- A piece becomes another one, that lies where it lay or is new. -/
theorem SH.become (h : SH U w0 w As) {i : Nat} {A A' : HA} (hi : As[i]? = some A) (hA : ∀ f1, A.at_ w f1 → ∃ f1', A'.at_ w' f1' ∧ Upd f1 w w' ∧ ∀ g ∈ f1', g ∈ f1 ∨ w.heap.size ≤ g) : SH U w0 w' (As.eraseIdx i ++ [A']) := by
  obtain ⟨fp, ⟨f1, f2, rfl, h1, h2, h3⟩, h4⟩ := (h.perm (perm_erase hi)).st
  obtain ⟨f1', k1, k2, k3⟩ := hA f1 h1
  have hlive := h2.live
  refine ⟨?_, f2 ++ (f1' ++ []), (h2.keep _ _ _ _ fun k hk => k2.block k (hlive k hk) fun hm => h3 k hm hk).app ⟨f1', [], rfl, k1, rfl, by simp⟩ fun k hk hm => ?_, fun k hk => ?_⟩
  · refine ⟨k2.os.trans h.upd.os, k2.tape.trans h.upd.tape, k2.output.trans h.upd.output, Nat.le_trans h.upd.size k2.size, fun k hk hn => ?_⟩
    rw [k2.block k (Nat.lt_of_lt_of_le hk h.upd.size) fun hm => ?_]
    · exact h.upd.block k hk hn
    · rcases h4 k (List.mem_append_left _ hm) with h5 | h5
      · omega
      · exact hn h5
  · rw [List.append_nil] at hm
    rcases k3 k hm with h5 | h5
    · exact h3 k h5 hk
    · have := hlive k hk; omega
  · rw [List.append_nil] at hk
    rcases List.mem_append.1 hk with hk | hk
    · exact h4 k (List.mem_append_right _ hk)
    · rcases k3 k hk with h5 | h5
      · exact h4 k (List.mem_append_left _ h5)
      · exact .inl (Nat.le_trans h.upd.size h5)
/-- Nothing is a row. -/
theorem SH.row0 (h : SH U w0 w As) (T size : Nat) : SH U w0 w (As ++ [rowH T size Option.none 0 0 []]) := by
  obtain ⟨fp, h1, h2⟩ := h.st
  exact ⟨h.upd, fp ++ [], h1.app ⟨[], [], rfl, ⟨World.ownsRow_nil w 0 T size, rfl⟩, rfl, by simp⟩ (by simp), by simpa using h2⟩
/-- A block is a row. -/
theorem SH.toRow (h : SH U w0 w As) {i g m c size : Nat} {T : TypeId} {xs pad : List Value} (hi : As[i]? = some (pt g ⟨xs ++ pad⟩ T)) (hx : xs.length = m * size) (hc : (xs ++ pad).length = c * size) (hnc : m ≤ c) (hcm : c ≤ maxLen) : SH U w0 w (As.eraseIdx i ++ [rowH T size (some ⟨g, 0, Option.none⟩) m c xs]) :=
  h.become hi fun f1 h1 => ⟨[g], ⟨⟨hx, .inr ⟨g, c, _, rfl, Nat.zero_le _, h1.2, hnc, hcm, by simpa using hc, by show (xs ++ pad).take (m * size) = xs; rw [← hx]; exact List.take_left⟩⟩, rfl⟩, Upd.refl _ _, fun k hk => .inl (by rw [h1.1]; exact hk)⟩
/-- A row that is not empty is a block. -/
theorem SH.ofRow (h : SH U w0 w As) {i m c size : Nat} {a : Option Addr} {T : TypeId} {xs : List Value} (hi : As[i]? = some (rowH T size a m c xs)) (hm : 0 < m) :
    ∃ g pad, a = some ⟨g, 0, Option.none⟩ ∧ SH U w0 w (As.eraseIdx i ++ [pt g ⟨xs ++ pad⟩ T]) ∧ (xs ++ pad).length = c * size ∧ m ≤ c ∧ c ≤ maxLen := by
  obtain ⟨h1, h2 | ⟨g, cap, cur, hv, _, h4, h5, h6, h7, h8⟩⟩ := h.row_at hi
  · omega
  · simp only [Value.slice.injEq] at hv
    obtain ⟨rfl, _, rfl⟩ := hv
    have hcur : cur = ⟨xs ++ cur.toList.drop (m * size)⟩ := by
      apply Array.ext'
      show cur.toList = xs ++ cur.toList.drop (m * size)
      conv => rhs; rw [← h8]
      exact (List.take_append_drop _ _).symm
    refine ⟨g, cur.toList.drop (m * size), rfl, h.become hi fun f1 hf => ⟨[g], ⟨rfl, by rw [← hcur]; exact h4⟩, Upd.refl _ _, fun k hk => .inl (by rw [hf.2]; simpa [Value.ownBlock] using hk)⟩, ?_, h5, h6⟩
    have : cur.toList.length = c * size := by simpa using h7
    rw [← this]; conv => rhs; rw [hcur]
/-- New memory of whatever kind. -/
theorem SH.freshP (h : SH U w0 w As) (hg : Gr w w') {A : HA} {f : List Nat} (hA : A.at_ w' f) (hf : ∀ g ∈ f, w.heap.size ≤ g) : SH U w0 w' (As ++ [A]) := by
  obtain ⟨fp, h1, h2⟩ := h.st
  have hlive := h1.live
  refine ⟨h.upd.gr hg, fp ++ f, (h1.keep _ _ _ _ fun k hm => hg.block k (hlive k hm)).app ⟨f, [], by simp, hA, rfl, by simp⟩ fun k hk hm => ?_, fun k hk => ?_⟩
  · have := hlive k hk; have := hf k hm; omega
  · rcases List.mem_append.1 hk with hk | hk
    · exact h2 k hk
    · exact .inl (Nat.le_trans h.upd.size (hf k hk))
/-- append to a row. -/
theorem SL.appR {x y : Operand} {t tx el : TypeId} (hs : SH U w0 w L) (hg : o.guard = none) (hd : dok n o.dst = true) (ho : o.op = .call { callee := .builtin .append, args := #[x, y], argTypes := #[t, tx] }) {z : Value} {size bytes : Nat} (ht : P.underlying t = some (.slice el)) (hinfo : (P.info? el).map (fun i => (i.zero, i.size, i.bytes)) = some (some z, size, bytes))
    (hzs : z.cells.size = size) (hsz : Nat.blt 0 size = true) (hby : Nat.ble bytes 1000 = true) {i k c : Nat} {a : Option Addr} {xs : List Value} (hx : evE e x = .slice a k c) (hL : L[i]? = some (rowH el size a k c xs))
    {yv : Value} {m : Nat} {news : List Value} (hy : evE e y = yv) (hsr : Src P size tx yv m news w) (hn : k + m ≤ 100000000) {xs' : List Value} (hxs : xs ++ news = xs') {k' : Nat} (hk : k + m = k') {L' : List HA} (hL' : L.eraseIdx i = L')
    (H : ∀ a' c' w', SH U w0 w' (L' ++ [rowH el size a' k' c' xs']) → SL P n ops Q l (dput e o.dst (.slice a' k' c')) w') : SL P n ops Q (o :: l) e w := by
  subst hxs; subst hk; subst hL'
  obtain ⟨i0, hi0, hz0, hz1, hz2⟩ := info_parts hinfo
  have hown := hs.row_at hL
  obtain ⟨v', w', hrun, h2, h3, h4⟩ := run_append_src_own (P := P) w 0 t tx o.type el i0 z size bytes ht hi0 hz0 hz1 hz2 hzs (by simpa using hsz) _ k xs hown yv m news hsr (by simp only [maxLen]; omega)
    (by have : (k + m) * bytes ≤ (k + m) * 1000 := Nat.mul_le_mul_left _ (by simpa using hby); omega) (Nat.zero_le _)
  obtain ⟨a', c', rfl⟩ : ∃ a' c', v' = .slice a' (k + m) c' := by
    rcases h2.2 with ⟨rfl, h0⟩ | ⟨g', cap', cur, rfl, _⟩
    · exact ⟨none, 0, by rw [h0]⟩
    · exact ⟨_, cap', rfl⟩
  refine SL.val hg hd (run_appop ho hx hy hrun) (H a' c' w' (hs.become hL fun f1 hf => ⟨_, ⟨h2, rfl⟩, by rw [hf.2]; exact Upd.of_grown h3, fun k hk => ?_⟩))
  rcases h4 with h4 | h4
  · rw [h4] at hk; exact .inl (by rw [hf.2]; exact hk)
  · rw [h4] at hk; simp at hk; exact .inr (by omega)
end
section
variable {w0 w : World} {U : List Nat} {As : List HA}
end
end Go.Proofs.Ytaelmkkobjdgbaa

namespace Go.Proofs.Ytaelmkkobjdgbaa
set_option linter.unusedSimpArgs false
set_option linter.unusedVariables false
open Go.RowKit
set_option linter.unusedVariables false

section
variable {P : Program} {n : Nat} {l : List Oper} {Q : Post} {e : Nat → Value} {w : World}
/-- Operations ahead of a region's tail; what is known hangs on which ones are done. -/
def StepG (P : Program) (l0 : List Oper) (ops : Array Oper) (A : (Nat → Value) → Nat → Value) (F : Nat → Value → World → Prop) (Base : (Nat → Prop) → World → Prop) (i : Nat) (o : Oper) : Prop :=
  ∀ (L : Nat → Prop) (ys : Nat → Value) (w : World), closedL l0 L → ¬ L i → Base L w → (∀ j, L j → F j (ys j) w) → LAll .any L o.after.toList → ∀ K : Value → World → Prop,
    (∀ v w', Base (fun k => k = i ∨ L k) w' → F i v w' → (∀ j, L j → F j (ys j) w → F j (ys j) w') → K v w') → OpG P ops (A ys) o w K
def StepsG (P : Program) (l0 : List Oper) (ops : Array Oper) (A : (Nat → Value) → Nat → Value) (F : Nat → Value → World → Prop) (Base : (Nat → Prop) → World → Prop) : Nat → List Oper → Prop
  | _, [] => True
  | i, o :: r => StepG P l0 ops A F Base i o ∧ StepsG P l0 ops A F Base (i + 1) r
theorem StepsG.at {l0 : List Oper} {ops : Array Oper} {A : (Nat → Value) → Nat → Value} {F : Nat → Value → World → Prop} {Base : (Nat → Prop) → World → Prop} : ∀ {r : List Oper} {i : Nat}, StepsG P l0 ops A F Base i r → ∀ k o, r[k]? = some o → StepG P l0 ops A F Base (i + k) o
  | [], _, _, _, _, h => by simp at h
  | p :: r, i, hs, 0, o, h => by
    simp only [List.getElem?_cons_zero, Option.some.injEq] at h
    subst h
    exact hs.1
  | p :: r, i, hs, k + 1, o, h => by
    have := StepsG.at hs.2 k o (by simpa using h)
    rw [show i + 1 + k = i + (k + 1) by omega] at this
    exact this
/-- .. and what stands ahead of it, in whatever order. -/
theorem wpAny_headG {m : Nat} (hb : tailB l m = true) (hml : m ≤ l.length) (F : Nat → Value → World → Prop) (Base : (Nat → Prop) → World → Prop) (hdst : apartD (l.take m) = true) (hok : ((l.take m).all fun o => dok n o.dst) = true) (hf : Fr n e)
    (hstep : StepsG P l l.toArray (fun ys => fillE (l.take m) 0 ys e) F Base 0 (l.take m))
    (htail : ∀ ys w, Base (fun j => j < m) w → (∀ j, j < m → F j (ys j) w) → SL P n l.toArray Q (l.drop m) (fillE (l.take m) 0 ys e) w) :
    ∀ (fuel : Nat) (listed : Array Bool) (ys : Nat → Value) (w : World), listed.size = l.length → listed.toList.count false ≤ fuel → Base (fun j => listed[j]? = some true) w → (∀ j, listed[j]? = some true → j < m ∧ F j (ys j) w) →
      closedL l (fun j => listed[j]? = some true) → wpAny P .any l.toArray (onE n Q) fuel listed (frm n (fillE (l.take m) 0 ys e)) w := by
  intro fuel
  induction fuel with
  | zero =>
    intro listed ys w hsz hc hB hD hcl
    have hall : ∀ i, i < l.length → listed[i]? = some true := by
      intro i hi
      have h0 : listed.toList.count false = 0 := by omega
      rw [List.count_eq_zero] at h0
      have hlt : i < listed.size := by omega
      rcases hbb : listed[i] with _ | _
      · exact absurd (by rw [← hbb]; exact Array.getElem_mem_toList _) h0
      · simp [hlt, hbb]
    have hm : m = l.length := by
      rcases Nat.lt_or_ge m l.length with h1 | h1
      · have := (hD m (hall m h1)).1; omega
      · omega
    exact wpAny_tail hb 0 m listed _ w (Nat.le_refl _) hml hsz (fun j hj => ⟨fun _ => by omega, fun _ => hall j hj⟩) (by omega) (htail ys w ((show (fun j => listed[j]? = some true) = (fun j => j < m) from funext fun j => propext ⟨fun h => (hD j h).1, fun h => hall j (by omega)⟩) ▸ hB) fun j hj => (hD j (hall j (by omega))).2) (Fr.fill _ _ _ _ hok hf)
  | succ fuel ih =>
    intro listed ys w hsz hc hB hD hcl
    by_cases hpre : ∀ j, j < m → listed[j]? = some true
    · refine wpAny_tail hb (fuel + 1) m listed _ w (Nat.le_refl _) hml hsz (fun j hj => ⟨fun h => (hD j h).1, fun h => hpre j h⟩) ?_ (htail ys w ((show (fun j => listed[j]? = some true) = (fun j => j < m) from funext fun j => propext ⟨fun h => (hD j h).1, fun h => hpre j h⟩) ▸ hB) fun j hj => (hD j (hpre j hj)).2) (Fr.fill _ _ _ _ hok hf)
      have hcnt : l.length - m ≤ listed.toList.count false := by
        have h1 : (listed.toList.drop m).count false = (listed.toList.drop m).length := by
          rw [List.count_eq_length]
          intro b hbm
          obtain ⟨k, hk, hkb⟩ := List.getElem_of_mem hbm
          rw [List.getElem_drop] at hkb
          have hk' : m + k < listed.toList.length := by simp at hk; simp; omega
          cases b with
          | false => rfl
          | true =>
            have : listed[m + k]? = some true := by
              rw [← Array.getElem?_toList, List.getElem?_eq_getElem hk', hkb]
            have := (hD _ this).1
            omega
        have h2 := (List.drop_sublist m listed.toList).count_le false
        rw [h1] at h2
        simpa [hsz] using h2
      omega
    · refine ⟨fun hr => ?_, fun i hi => ?_⟩
      · exfalso
        apply hpre
        intro j
        induction j using Nat.strongRecOn with
        | ind j ihj =>
          intro hj
          refine Classical.byContradiction fun hn => ?_
          have : j ∈ Region.ready .any l.toArray listed := (ready_iff hsz j).2 ⟨by omega, hn, fun x hx => by
            have := tailB_lt hb (i := j) (by omega) x hx
            exact ihj x this (by omega)⟩
          rw [hr] at this; cases this
      · obtain ⟨hil, hni, hp⟩ := (ready_iff hsz i).1 hi
        have him : i < m := by
          rcases Nat.lt_or_ge i m with h1 | h1
          · exact h1
          · exact absurd (fun j hj => cov_sound hcl i _ hp (tailB_cov hb hil h1) j (by omega)) hpre
        have hli : (l.take m)[i]? = some l[i] := by rw [List.getElem?_take, if_pos him]; simp [hil]
        refine wpOp_step (o := l[i]) (by simp [hil]) fun K hK => ?_
        have hst := StepsG.at hstep i l[i] hli
        rw [Nat.zero_add] at hst
        refine OpG.wanted (Fr.fill _ _ _ _ hok hf) ?_
        refine hst (fun j => listed[j]? = some true) ys w hcl hni hB (fun j hj => (hD j hj).2) (LAll.of fun x hx hbx => ?_) _ fun v w' hB' hFi hkeep => ?_
        · refine hp x.on ?_
          unfold preds
          rw [List.getElem?_eq_getElem hil]
          simp only [Option.map_some, Option.getD_some, List.mem_map, List.mem_filter]
          exact ⟨x, ⟨hx, hbx⟩, rfl⟩
        · have e1 : (frm n (fillE (l.take m) 0 ys e)).put l[i].dst v = frm n (fillE (l.take m) 0 (fun j => if j = i then v else ys j) e) := by
            rw [← fillA_frm, ← fillA_frm, fillA_set (l.take m) 0 i l[i] ys (frm n e) v hdst hli, Nat.zero_add]
          rw [e1]
          have hlt : i < listed.size := by omega
          have hfi : listed[i] = false := by
            rcases hbb : listed[i] with _ | _
            · rfl
            · exact absurd (by simp [hlt, hbb]) hni
          have hset : ∀ j, (listed.setIfInBounds i true)[j]? = some true ↔ (j = i ∨ listed[j]? = some true) := by
            intro j
            by_cases ej : j = i
            · subst ej; simp [hlt]
            · rw [Array.getElem?_setIfInBounds_ne (by omega)]; simp [ej]
          refine hK _ _ (ih _ _ _ (by simpa using hsz) ?_ ((show (fun k => k = i ∨ listed[k]? = some true) = (fun j => (listed.setIfInBounds i true)[j]? = some true) from funext fun j => propext (hset j).symm) ▸ hB') (fun j hj => ?_) (fun j hj x hx => ?_))
          · have : (listed.setIfInBounds i true).toList.count false + 1 = listed.toList.count false := by
              rw [Array.toList_setIfInBounds]
              have h1 : i < listed.toList.length := by simpa using hlt
              rw [List.count_set h1]
              have h2 : listed.toList[i] = false := by simpa using hfi
              have h3 : 0 < listed.toList.count false := List.count_pos_iff.2 (by rw [← h2]; exact List.getElem_mem h1)
              rw [h2, if_pos (show (false == false) = true from rfl), if_neg (by decide)]
              omega
            omega
          · rcases (hset j).1 hj with rfl | hj'
            · exact ⟨him, by simpa using hFi⟩
            · have hji : j ≠ i := fun e => hni (e ▸ hj')
              refine ⟨(hD j hj').1, ?_⟩
              simp only [hji, if_false]
              exact hkeep j hj' (hD j hj').2
          · rcases (hset j).1 hj with rfl | hj'
            · exact (hset x).2 (.inr (hp x hx))
            · exact (hset x).2 (.inr (hcl j hj' x hx))
/-- THE RULE for a region that draws its order: facts ahead of the tail, the tail one behind the other. -/
theorem CW.drawG {id : Nat} (m : Nat) (F : Nat → Value → World → Prop) (Base : (Nat → Prop) → World → Prop) (hm : P.follows .mixedOrders = true) (hb : tailB l m = true) (hml : Nat.ble m l.length = true) (hdst : apartD (l.take m) = true) (hok : ((l.take m).all fun o => dok n o.dst) = true)
    (hB : Base (fun _ => False) w.drew) (hstep : StepsG P l l.toArray (fun ys => fillE (l.take m) 0 ys e) F Base 0 (l.take m))
    (htail : ∀ ys w, Base (fun j => j < m) w → (∀ j, j < m → F j (ys j) w) → SL P n l.toArray Q (l.drop m) (fillE (l.take m) 0 ys e) w) : CW P n (.region id l.toArray true) Q e w := fun hf => by
  refine wp_region_any hm ?_
  obtain ⟨ys, h⟩ := fillA_old (l.take m) (frm n e) 0
  have he : ∀ i : Nat, ¬ ((Array.replicate l.toArray.size false)[i]? = some true) := by
    intro i hi
    rw [Array.getElem?_replicate] at hi
    split at hi <;> simp at hi
  have := wpAny_headG (P := P) (Q := Q) hb (by simpa using hml) F Base hdst hok hf hstep htail l.toArray.size (Array.replicate l.toArray.size false) ys w.drew (by simp) (by simp) ((show (fun _ : Nat => False) = (fun j => (Array.replicate l.toArray.size false)[j]? = some true) from funext fun j => propext ⟨False.elim, fun h => he j h⟩) ▸ hB) (fun j hj => absurd hj (he j)) (fun j hj => absurd hj (he j))
  rw [fillA_frm] at h
  rw [h] at this
  exact this
end
/-- Where a region stands that has some stores, one behind the other. -/
structure BaseS (js : List Nat) (fj : List Nat) (ws : World) (Ps : List (List HA)) (L : Nat → Prop) (W : World) : Prop where
  upd : Upd fj ws W
  st : ∃ s P, Ps[s]? = some P ∧ (∀ (i j : Nat), js[i]? = some j → (L j ↔ i < s)) ∧ HSt P W fj
theorem BaseS.init {js fj : List Nat} {ws : World} {P : List HA} {Ps : List (List HA)} (h : HSt P ws fj) : BaseS js fj ws (P :: Ps) (fun _ => False) ws.drew :=
  ⟨Upd.of_gr (Gr.refl _).drew, 0, P, rfl, fun i j _ => by simp, h.keep _ _ _ _ fun g hg => rfl⟩
theorem BaseS.step {js fj : List Nat} {ws W W' : World} {Ps : List (List HA)} {L : Nat → Prop} {i0 : Nat} (h : BaseS js fj ws Ps L W) (hi : js.contains i0 = false) (hg : Gr W W') : BaseS js fj ws Ps (fun k => k = i0 ∨ L k) W' := by
  obtain ⟨s, P, h1, h2, h3⟩ := h.st
  refine ⟨h.upd.gr hg, s, P, h1, fun i j hj => ?_, h3.keep _ _ _ _ fun g hm => hg.block g (h3.live _ _ _ g hm)⟩
  rw [← h2 i j hj]
  refine ⟨fun hx => hx.resolve_left fun e => ?_, .inr⟩
  subst e
  have := List.mem_of_getElem? hj
  rw [← List.contains_iff_mem, hi] at this
  cases this
theorem BaseS.at_ {js fj : List Nat} {ws W : World} {Ps : List (List HA)} {L : Nat → Prop} (h : BaseS js fj ws Ps L W) {k : Nat} {P : List HA} (hP : Ps[k]? = some P) (hlt : k ≤ js.length) (hPl : Ps.length = js.length + 1) (hprev : ∀ (i j : Nat), js[i]? = some j → i + 1 = k → L j) (hn : ∀ j, js[k]? = some j → ¬ L j) : HSt P W fj := by
  obtain ⟨s, P', h1, h2, h3⟩ := h.st
  have e1 : s ≤ k ∨ k = js.length := by
    rcases Nat.lt_or_ge k js.length with hk | hk
    · exact .inl (Nat.le_of_not_lt fun hs => hn _ (List.getElem?_eq_getElem hk) ((h2 k _ (List.getElem?_eq_getElem hk)).2 hs))
    · exact .inr (by omega)
  have e2 : k ≤ s := by
    cases k with
    | zero => omega
    | succ k =>
      have hk : k < js.length := by omega
      have := (h2 k _ (List.getElem?_eq_getElem hk)).1 (hprev k _ (List.getElem?_eq_getElem hk) rfl)
      omega
  have e3 : s < Ps.length := (List.getElem?_eq_some_iff.1 h1).1
  obtain rfl : s = k := by omega
  rw [hP] at h1
  injection h1 with h1
  subst h1
  exact h3
theorem BaseS.done {js fj : List Nat} {ws W W' : World} {Ps : List (List HA)} {L : Nat → Prop} (h : BaseS js fj ws Ps L W) {k j : Nat} {P P' : List HA} (hj : js[k]? = some j) (hnd : js.Nodup) (hP : Ps[k]? = some P) (hP' : Ps[k + 1]? = some P') (hPl : Ps.length = js.length + 1) (hprev : ∀ (i j : Nat), js[i]? = some j → i + 1 = k → L j) (hn : ¬ L j)
    (hu : Upd fj W W') (hst : HSt P' W' fj) : BaseS js fj ws Ps (fun x => x = j ∨ L x) W' := by
  refine ⟨h.upd.trans hu, k + 1, P', hP', fun i j' hj' => ?_, hst⟩
  have hkl : k < js.length := (List.getElem?_eq_some_iff.1 hj).1
  obtain ⟨s, P0, h1, h2, h3⟩ := h.st
  have e1 : s ≤ k := Nat.le_of_not_lt fun hs => hn ((h2 k j hj).2 hs)
  have e2 : k ≤ s := by
    cases k with
    | zero => omega
    | succ k =>
      have hk : k < js.length := by omega
      have := (h2 k _ (List.getElem?_eq_getElem hk)).1 (hprev k _ (List.getElem?_eq_getElem hk) rfl)
      omega
  obtain rfl : s = k := by omega
  have hjj : j' = j ↔ i = s := by
    constructor
    · rintro rfl
      have hil : i < js.length := (List.getElem?_eq_some_iff.1 hj').1
      exact (List.getElem?_inj hil hnd).1 (hj'.trans hj.symm)
    · rintro rfl; rw [hj] at hj'; injection hj' with e; exact e.symm
  show (j' = j ∨ L j') ↔ i < s + 1
  rw [hjj, h2 i j' hj']
  omega
theorem prev_0 {js : List Nat} {L : Nat → Prop} : ∀ (i j : Nat), js[i]? = some j → i + 1 = 0 → L j := fun i j _ he => by omega
theorem prev_at {js : List Nat} {L : Nat → Prop} {k : Nat} (j0 : Nat) (hjs : js[k]? = some j0) (hL : L j0) : ∀ (i j : Nat), js[i]? = some j → i + 1 = k + 1 → L j := fun i j hi he => by
  obtain rfl : i = k := by omega
  rw [hjs] at hi; injection hi with hi; subst hi; exact hL
theorem next_at {js : List Nat} {L : Nat → Prop} {k : Nat} (j0 : Nat) (hjs : js[k]? = some j0) (hL : ¬ L j0) : ∀ j, js[k]? = some j → ¬ L j := fun j hj => by
  rw [hjs] at hj; injection hj with hj; subst hj; exact hL
theorem next_end {js : List Nat} {L : Nat → Prop} {k : Nat} (hjs : js[k]? = none) : ∀ j, js[k]? = some j → ¬ L j := fun j hj => by
  rw [hjs] at hj; cases hj
/-- A store, over pieces. -/
theorem HSt.setCells {P : List HA} : ∀ {w : World} {fp : List Nat} {i g : Nat} {C : Array Value} {T : TypeId} (h : HSt P w fp) (hi : P[i]? = some (pt g C T)) (off : Nat) (vs : List Value), HSt (P.set i (pt g (setL C off vs) T)) (w.setCells g off vs) fp ∧ Upd fp w (w.setCells g off vs) := by
  induction P with
  | nil => intro w fp i g C T h hi; simp at hi
  | cons A l ih =>
    rintro w fp i g C T ⟨f1, f2, rfl, h1, h2, h3⟩ hi off vs
    cases i with
    | zero =>
      simp only [List.getElem?_cons_zero, Option.some.injEq] at hi
      subst hi
      obtain ⟨k1, k2, k3⟩ := setCells_blk (t := T) vs off w C h1.2
      have e1 : f1 = [g] := h1.1
      subst e1
      refine ⟨⟨[g], f2, rfl, ⟨rfl, k1⟩, h2.keep _ _ _ _ fun k hk => k2.block k (h2.live _ _ _ k hk) fun hm => h3 k hm hk, h3⟩, k2.mono fun k hk _ => List.mem_append_left _ hk⟩
    | succ i =>
      simp only [List.getElem?_cons_succ] at hi
      obtain ⟨q1, q2⟩ := ih h2 hi off vs
      exact ⟨⟨f1, f2, rfl, A.keep _ _ _ h1 fun k hk => q2.block k (A.live _ _ h1 k hk) fun hm => h3 k hk hm, q1, h3⟩, q2.mono fun k hk _ => List.mem_append_right _ hk⟩
theorem HSt.pt_at {P : List HA} : ∀ {w : World} {fp : List Nat} {i g : Nat} {C : Array Value} {T : TypeId} (h : HSt P w fp) (hi : P[i]? = some (pt g C T)), w.heap[g]? = some (.cells C T (0, 0)) := by
  induction P with
  | nil => intro w fp i g C T h hi; simp at hi
  | cons A l ih =>
    rintro w fp i g C T ⟨f1, f2, rfl, h1, h2, h3⟩ hi
    cases i with
    | zero =>
      simp only [List.getElem?_cons_zero, Option.some.injEq] at hi
      subst hi
      exact h1.2
    | succ i => exact ih h2 (by simpa using hi)
theorem OpE.store {P : Program} {e : Nat → Value} {o : Oper} {w : World} {K : Value → World → Prop} {ty : TypeId} {x y : Operand} {g off : Nat} {C : Array Value} {T : TypeId} {v : Value} (ho : o.op = .store ty x y) (hx : evE e x = .pointer (some ⟨g, off, none⟩)) (hy : evE e y = v) (hb : w.heap[g]? = some (.cells C T (0, 0)))
    (hi : (P.info? ty).map (·.size) = some v.cells.size) (h1 : v.cells.all (·.oneCell') = true) (hroom : Nat.ble (off + v.cells.size) C.size = true) (h : K undef (w.setCells g off v.cells.toList)) : OpE P e o w K := by
  subst hy
  refine .skip _ ?_ h
  unfold execOp
  simp only [ho, hx, Sem.run_bind, run_st hb hi h1 hroom, Result.andThen_ok, Sem.run_pure]
/-- What one piece changes, the others keep. -/
theorem SH.frame {U : List Nat} {w0 ws : World} {As Pre Rest : List HA} (h : SH U w0 ws As) (is : List Nat) (hp : pickL is As = some (Pre, Rest)) :
    ∃ fj, HSt Pre ws fj ∧ ∀ (W : World) (Q : List HA) (f' : List Nat), Upd fj ws W → HSt Q W f' → (∀ g ∈ f', g ∈ fj ∨ ws.heap.size ≤ g) → SH U w0 W (Q ++ Rest) := by
  obtain ⟨fp, h1, h2⟩ := (h.perm (pickL_perm is As Pre Rest hp)).st
  obtain ⟨f1, f2, rfl, h3, h4, h5⟩ := h1.split
  refine ⟨f1, h3, fun W Q f' hu hq hf => ⟨?_, f' ++ f2, hq.app (h4.keep _ _ _ _ fun g hg => hu.block g (h4.live _ _ _ g hg) fun hm => h5 g hm hg) fun g hg hm => ?_, fun g hg => ?_⟩⟩
  · refine ⟨hu.os.trans h.upd.os, hu.tape.trans h.upd.tape, hu.output.trans h.upd.output, Nat.le_trans h.upd.size hu.size, fun k hk hn => ?_⟩
    rw [hu.block k (Nat.lt_of_lt_of_le hk h.upd.size) fun hm => ?_]
    · exact h.upd.block k hk hn
    · rcases h2 k (List.mem_append_left _ hm) with h9 | h9
      · omega
      · exact hn h9
  · rcases hf g hg with h9 | h9
    · exact h5 g h9 hm
    · have := h4.live _ _ _ g hm; omega
  · rcases List.mem_append.1 hg with hg | hg
    · rcases hf g hg with h9 | h9
      · exact h2 g (List.mem_append_left _ h9)
      · exact .inl (Nat.le_trans h.upd.size h9)
    · exact h2 g (List.mem_append_right _ hg)
/-- Where a region stands that has one operation that changes memory. -/
def BaseJ (j : Nat) (fj : List Nat) (ws : World) (L : Nat → Prop) (W : World) : Prop := Upd fj ws W ∧ (¬ L j → Gr ws W)
theorem BaseJ.init {j : Nat} {fj : List Nat} {ws : World} : BaseJ j fj ws (fun _ => False) ws.drew := ⟨Upd.of_gr (Gr.refl _).drew, fun _ => (Gr.refl _).drew⟩
theorem BaseJ.step {j i : Nat} {fj : List Nat} {ws W W' : World} {L : Nat → Prop} (h : BaseJ j fj ws L W) (hg : Gr W W') : BaseJ j fj ws (fun k => k = i ∨ L k) W' := ⟨h.1.gr hg, fun hn => (h.2 fun hl => hn (.inr hl)).trans hg⟩
theorem BaseJ.done {j : Nat} {fj : List Nat} {ws W W' : World} {L : Nat → Prop} (h : BaseJ j fj ws L W) (hu : Upd fj W W') : BaseJ j fj ws (fun k => k = j ∨ L k) W' := ⟨h.1.trans hu, fun hn => absurd (.inl rfl) hn⟩
/-- What the operation that changes memory leaves. -/
def LeftJ (fj : List Nat) (ws : World) (R : Value → List HA → Prop) (v : Value) (W : World) : Prop := ∃ Q f', R v Q ∧ HSt Q W f' ∧ ∀ g ∈ f', g ∈ fj ∨ ws.heap.size ≤ g
theorem LeftJ.gr {fj : List Nat} {ws W W' : World} {R : Value → List HA → Prop} {v : Value} (h : LeftJ fj ws R v W) (hg : Gr W W') : LeftJ fj ws R v W' := by
  obtain ⟨Q, f', h1, h2, h3⟩ := h
  exact ⟨Q, f', h1, h2.keep _ _ _ _ fun g hm => hg.block g (h2.live _ _ _ g hm), h3⟩
theorem NewB.upd {ws : World} {mk : Nat → Value} {o : Obj} {v : Value} {W W' : World} {fj : List Nat} (hf : ∀ g ∈ fj, g < ws.heap.size) (hu : Upd fj W W') (h : NewB ws mk o v W) : NewB ws mk o v W' := by
  obtain ⟨g, h1, h2, h3⟩ := h
  exact ⟨g, h1, hu.blk h2 fun hm => by have := hf g hm; omega, h3⟩
/-- Facts that hold on while blocks of a list change, but for one. -/
def UpdLJ (fj : List Nat) (j : Nat) : Nat → List (Value → World → Prop) → Prop
  | _, [] => True
  | i, p :: ps => (i = j ∨ ∀ v W W', Upd fj W W' → p v W → p v W') ∧ UpdLJ fj j (i + 1) ps
theorem FW.updA {fj : List Nat} {j : Nat} : ∀ {ps : List (Value → World → Prop)} {i : Nat} (h : UpdLJ fj j i ps) {k : Nat} {v : Value} {W W' : World}, i + k ≠ j → Upd fj W W' → FW ps k v W → FW ps k v W'
  | [], _, _, _, _, _, _, _, _, hf => hf
  | p :: ps, i, h, 0, v, W, W', hk, hg, hf => by
    rcases h.1 with h1 | h1
    · exact absurd h1 hk
    · exact h1 v W W' hg hf
  | p :: ps, i, h, k + 1, v, W, W', hk, hg, hf => FW.updA (ps := ps) h.2 (k := k) (by omega) hg hf
theorem FW.updJ {fj : List Nat} {j : Nat} {ps : List (Value → World → Prop)} (h : UpdLJ fj j 0 ps) {L : Nat → Prop} (hn : ¬ L j) {k : Nat} (hk : L k) {v : Value} {W W' : World} (hg : Upd fj W W') (hf : FW ps k v W) : FW ps k v W' :=
  FW.updA h (by rw [Nat.zero_add]; rintro rfl; exact hn hk) hg hf
def PureL : List (Value → World → Prop) → Prop
  | [] => True
  | p :: ps => (∀ v W W', p v W → p v W') ∧ PureL ps
theorem FW.pureL : ∀ {ps : List (Value → World → Prop)} (h : PureL ps) {j : Nat} {v : Value} {W W' : World}, FW ps j v W → FW ps j v W'
  | [], _, _, _, _, _, hf => hf
  | p :: ps, h, 0, v, W, W', hf => h.1 v W W' hf
  | p :: ps, h, j + 1, v, W, W', hf => FW.pureL (ps := ps) h.2 (j := j) hf
/-- append to a row, over pieces. -/
theorem run_appRH {P : Program} {w : World} {f : List Nat} {t tx ty el : TypeId} {z : Value} {size bytes : Nat} {a : Option Addr} {k c : Nat} {xs : List Value} (hst : HSt [rowH el size a k c xs] w f) (ht : P.underlying t = some (.slice el)) (hinfo : (P.info? el).map (fun i => (i.zero, i.size, i.bytes)) = some (some z, size, bytes))
    (hzs : z.cells.size = size) (hsz : Nat.blt 0 size = true) (hby : Nat.ble bytes 1000 = true) {yv : Value} {m : Nat} {news : List Value} (hsr : Src P size tx yv m news w) (hn : k + m ≤ 100000000) {xs' : List Value} (hxs : xs ++ news = xs') {k' : Nat} (hk : k + m = k') :
    ∃ a' c' w', (Builtin.append_ #[t, tx] ty #[.slice a k c, yv]).run P w = .ok (.slice a' k' c') w' ∧ Upd f w w' ∧ ∃ f', HSt [rowH el size a' k' c' xs'] w' f' ∧ ∀ g ∈ f', g ∈ f ∨ w.heap.size ≤ g := by
  subst hxs; subst hk
  obtain ⟨i0, hi0, hz0, hz1, hz2⟩ := info_parts hinfo
  obtain ⟨f1, f2, rfl, hown, h0, _⟩ := hst
  have h0' : f2 = [] := h0
  subst h0'
  obtain ⟨v', w', hrun, h2, h3, h4⟩ := run_append_src_own (P := P) w 0 t tx ty el i0 z size bytes ht hi0 hz0 hz1 hz2 hzs (by simpa using hsz) _ k xs hown.1 yv m news hsr (by simp only [maxLen]; omega)
    (by have : (k + m) * bytes ≤ (k + m) * 1000 := Nat.mul_le_mul_left _ (by simpa using hby); omega) (Nat.zero_le _)
  obtain ⟨a', c', rfl⟩ : ∃ a' c', v' = .slice a' (k + m) c' := by
    rcases h2.2 with ⟨rfl, h0⟩ | ⟨g', cap', cur, rfl, _⟩
    · exact ⟨none, 0, by rw [h0]⟩
    · exact ⟨_, cap', rfl⟩
  refine ⟨a', c', w', hrun, by rw [List.append_nil, hown.2]; exact Upd.of_grown h3, _, ⟨_, [], rfl, ⟨h2, rfl⟩, rfl, by simp⟩, fun g hg => ?_⟩
  rw [List.append_nil] at hg
  rcases h4 with h4 | h4
  · rw [h4] at hg; exact .inl (by rw [List.append_nil, hown.2]; exact hg)
  · rw [h4] at hg; simp at hg; exact .inr (by omega)
end Go.Proofs.Ytaelmkkobjdgbaa

namespace Go.Proofs.Ytaelmkkobjdgbaa
set_option linter.unusedSimpArgs false
set_option linter.unusedVariables false
open Go.RowKit
set_option linter.unusedVariables false

section
variable {P : Program} {n : Nat} {l : List Oper} {Q : Post} {e : Nat → Value} {w : World}
end
theorem setL_listY : ∀ (vs : List Value) (C : Array Value) (o : Nat), o + vs.length ≤ C.size → (setL C o vs).toList = C.toList.take o ++ vs ++ C.toList.drop (o + vs.length)
  | [], C, o, _ => by simp [setL]
  | v :: r, C, o, h => by
    have ho : o < C.toList.length := by simp at h ⊢; omega
    rw [setL, setL_listY r _ (o + 1) (by simp at h ⊢; omega), Array.toList_setIfInBounds, List.take_set, List.drop_set_of_lt (by omega), List.take_succ_eq_append_getElem ho]
    have hlen : (C.toList.take o).length = o := by rw [List.length_take]; omega
    rw [List.set_append_right _ _ (by omega), hlen, Nat.sub_self]
    simp only [List.set_cons_zero, List.append_assoc, List.cons_append, List.nil_append, List.length_cons]
    rw [show o + 1 + r.length = o + (r.length + 1) by omega]
end Go.Proofs.Ytaelmkkobjdgbaa
