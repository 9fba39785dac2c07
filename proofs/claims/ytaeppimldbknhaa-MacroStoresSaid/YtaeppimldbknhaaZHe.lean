/-
  Pieces of memory: what lies where, and that pieces lie apart.
  The calculus over pieces of memory.
  The calculus: texts, places in rows, parts of rows.
  Rows of one's own that may be empty, as pieces of memory.
  Regions that draw their order, with one operation that changes memory.
-/
import Derived.Test.YtaeppimldbknhaaZPw
import Derived.Test.YtaeppimldbknhaaZSrc
import Derived.Test.YtaeppimldbknhaaZSq
namespace Go.Proofs.Ytaeppimldbknhaa
set_option linter.unusedSimpArgs false
set_option linter.unusedVariables false
open Go.RowKit
set_option linter.unusedVariables false

/-- A piece of memory: its blocks, and what is known of them. -/
structure HA where
  at_ : World → List Nat → Prop
  keep : ∀ w w' fp, at_ w fp → (∀ g ∈ fp, w'.heap[g]? = w.heap[g]?) → at_ w' fp
  live : ∀ w fp, at_ w fp → ∀ g ∈ fp, g < w.heap.size

theorem heap_lt {w : World} {g : Nat} {o : Obj} (h : w.heap[g]? = some o) : g < w.heap.size := (Array.getElem?_eq_some_iff.1 h).1
/-- One block, whole. -/
def ptf (g : Nat) (C : Array Value) (T : TypeId) (fr : Nat × Nat) : HA where
  at_ w fp := fp = [g] ∧ w.heap[g]? = some (.cells C T fr)
  keep w w' fp h hk := ⟨h.1, (hk g (by rw [h.1]; simp)).trans h.2⟩
  live w fp h g' hg := by rw [h.1] at hg; simp at hg; subst hg; exact heap_lt h.2
abbrev pt (g : Nat) (C : Array Value) (T : TypeId) : HA := ptf g C T (0, 0)
/-- What is known, without memory. -/
def pure_ (p : Prop) : HA where
  at_ w fp := fp = [] ∧ p
  keep w w' fp h hk := h
  live w fp h g' hg := by rw [h.1] at hg; simp at hg
/-- Pieces that lie apart. -/
def HSt : List HA → World → List Nat → Prop
  | [], _, fp => fp = []
  | A :: l, w, fp => ∃ f1 f2, fp = f1 ++ f2 ∧ A.at_ w f1 ∧ HSt l w f2 ∧ ∀ g ∈ f1, g ∉ f2
theorem HSt.keep : ∀ (l : List HA) (w w' : World) (fp : List Nat), HSt l w fp → (∀ g ∈ fp, w'.heap[g]? = w.heap[g]?) → HSt l w' fp
  | [], _, _, _, h, _ => h
  | A :: l, w, w', fp, ⟨f1, f2, e, h1, h2, h3⟩, hk => by
    subst e
    exact ⟨f1, f2, rfl, A.keep w w' f1 h1 fun g hg => hk g (List.mem_append_left _ hg), HSt.keep l w w' f2 h2 fun g hg => hk g (List.mem_append_right _ hg), h3⟩
theorem HSt.live : ∀ (l : List HA) (w : World) (fp : List Nat), HSt l w fp → ∀ g ∈ fp, g < w.heap.size
  | [], _, _, h, g, hg => by rw [show _ = _ from h] at hg; simp at hg
  | A :: l, w, fp, ⟨f1, f2, e, h1, h2, h3⟩, g, hg => by
    subst e
    rcases List.mem_append.1 hg with hg | hg
    · exact A.live w f1 h1 g hg
    · exact HSt.live l w f2 h2 g hg
theorem HSt.app : ∀ {l l' : List HA} {w : World} {f f' : List Nat}, HSt l w f → HSt l' w f' → (∀ g ∈ f, g ∉ f') → HSt (l ++ l') w (f ++ f')
  | [], l', w, f, f', h, h', _ => by rw [show f = [] from h]; simpa using h'
  | A :: l, l', w, f, f', ⟨f1, f2, e, h1, h2, h3⟩, h', hd => by
    subst e
    refine ⟨f1, f2 ++ f', by simp, h1, h2.app h' fun g hg => hd g (List.mem_append_right _ hg), fun g hg hm => ?_⟩
    rcases List.mem_append.1 hm with hm | hm
    · exact h3 g hg hm
    · exact hd g (List.mem_append_left _ hg) hm
theorem HSt.split : ∀ {l l' : List HA} {w : World} {f : List Nat}, HSt (l ++ l') w f → ∃ f1 f2, f = f1 ++ f2 ∧ HSt l w f1 ∧ HSt l' w f2 ∧ ∀ g ∈ f1, g ∉ f2
  | [], l', w, f, h => ⟨[], f, rfl, rfl, h, by simp⟩
  | A :: l, l', w, f, ⟨f1, f2, e, h1, h2, h3⟩ => by
    obtain ⟨f3, f4, e2, h4, h5, h6⟩ := HSt.split h2
    subst e; subst e2
    refine ⟨f1 ++ f3, f4, by simp, ⟨f1, f3, rfl, h1, h4, fun g hg hm => h3 g hg (List.mem_append_left _ hm)⟩, h5, fun g hg hm => ?_⟩
    rcases List.mem_append.1 hg with hg | hg
    · exact h3 g hg (List.mem_append_right _ hm)
    · exact h6 g hg hm
theorem HSt.perm {l l' : List HA} (hp : l.Perm l') : ∀ {w : World} {fp : List Nat}, HSt l w fp → ∃ fp', HSt l' w fp' ∧ ∀ g, g ∈ fp' ↔ g ∈ fp := by
  induction hp with
  | nil => exact fun h => ⟨_, h, fun _ => Iff.rfl⟩
  | cons x _ ih =>
    rintro w fp ⟨f1, f2, rfl, h1, h2, h3⟩
    obtain ⟨f2', h4, h5⟩ := ih h2
    exact ⟨f1 ++ f2', ⟨f1, f2', rfl, h1, h4, fun g hg hm => h3 g hg ((h5 g).1 hm)⟩, fun g => by simp [h5]⟩
  | swap x y l =>
    rintro w fp ⟨f1, f2, rfl, h1, ⟨f3, f4, rfl, h3, h4, h5⟩, h6⟩
    refine ⟨f3 ++ (f1 ++ f4), ⟨f3, f1 ++ f4, rfl, h3, ⟨f1, f4, rfl, h1, h4, fun g hg hm => h6 g hg (List.mem_append_right _ hm)⟩, fun g hg hm => ?_⟩, fun g => by simp only [List.mem_append]; constructor <;> (rintro (h | h | h) <;> simp [h])⟩
    rcases List.mem_append.1 hm with hm | hm
    · exact h6 g hm (List.mem_append_left _ hg)
    · exact h5 g hg hm
  | trans _ _ i1 i2 =>
    intro w fp h
    obtain ⟨f1, h1, e1⟩ := i1 h
    obtain ⟨f2, h2, e2⟩ := i2 h1
    exact ⟨f2, h2, fun g => (e2 g).trans (e1 g)⟩
/-- Some pieces are taken out, by their places (each in what is left). -/
def pickL {α : Type} : List Nat → List α → Option (List α × List α)
  | [], l => some ([], l)
  | i :: is, l => match l[i]? with
    | none => none
    | some a => (pickL is (l.eraseIdx i)).map fun r => (a :: r.1, r.2)
theorem perm_erase {α : Type} : ∀ {l : List α} {i : Nat} {a : α}, l[i]? = some a → l.Perm (a :: l.eraseIdx i)
  | [], i, a, h => by simp at h
  | x :: l, 0, a, h => by simp at h; subst h; exact List.Perm.refl _
  | x :: l, i + 1, a, h => by
    simp at h
    exact ((perm_erase h).cons x).trans (List.Perm.swap _ _ _)
theorem pickL_perm {α : Type} : ∀ (is : List Nat) (l : List α) (a b : List α), pickL is l = some (a, b) → l.Perm (a ++ b)
  | [], l, a, b, h => by simp only [pickL, Option.some.injEq, Prod.mk.injEq] at h; obtain ⟨rfl, rfl⟩ := h; exact List.Perm.refl _
  | i :: is, l, a, b, h => by
    unfold pickL at h
    cases hi : l[i]? with
    | none => rw [hi] at h; cases h
    | some x =>
      rw [hi] at h
      simp only [Option.map_eq_some_iff, Prod.mk.injEq] at h
      obtain ⟨⟨c, d⟩, h1, h2, h3⟩ := h
      subst h2; subst h3
      exact (perm_erase hi).trans ((pickL_perm is _ _ _ h1).cons x)

/-- The memory at hand: pieces of the call's own, or of blocks that it may change. -/
structure SH (U : List Nat) (w0 w : World) (As : List HA) : Prop where
  upd : Upd U w0 w
  st : ∃ fp, HSt As w fp ∧ ∀ g ∈ fp, w0.heap.size ≤ g ∨ g ∈ U
section
variable {U : List Nat} {w0 w w' : World} {As : List HA}
theorem SH.init {As : List HA} {w : World} {fp : List Nat} (h : HSt As w fp) : SH fp w w As := ⟨Upd.refl _ _, fp, h, fun _ hg => .inr hg⟩
theorem SH.none (w : World) : SH [] w w [] := ⟨Upd.refl _ _, [], rfl, by simp⟩
theorem Gr.updU {U : List Nat} (h : Gr w w') : Upd U w w' := Upd.of_gr h
theorem Upd.toGr (h : Upd [] w w') : Gr w w' := ⟨h.os, h.tape, h.output, h.size, fun k hk => h.block k hk (by simp)⟩
theorem SH.gr (h : SH [] w0 w As) : Gr w0 w := h.upd.toGr
theorem SH.grow (h : SH U w0 w As) (hg : Gr w w') : SH U w0 w' As := by
  obtain ⟨fp, h1, h2⟩ := h.st
  exact ⟨h.upd.gr hg, fp, h1.keep _ _ _ _ fun g hm => hg.block g (h1.live _ _ _ g hm), h2⟩
theorem SH.drew (h : SH U w0 w As) : SH U w0 w.drew As := h.grow (Gr.refl _).drew
theorem SH.perm {As' : List HA} (h : SH U w0 w As) (hp : As.Perm As') : SH U w0 w As' := by
  obtain ⟨fp, h1, h2⟩ := h.st
  obtain ⟨fp', h3, h4⟩ := h1.perm hp
  exact ⟨h.upd, fp', h3, fun g hg => h2 g ((h4 g).1 hg)⟩
theorem SH.ptf_at (h : SH U w0 w As) {i g : Nat} {C : Array Value} {T : TypeId} {fr : Nat × Nat} (hi : As[i]? = some (ptf g C T fr)) : w.heap[g]? = some (.cells C T fr) := by
  obtain ⟨fp, ⟨f1, f2, rfl, h1, _⟩, _⟩ := (h.perm (perm_erase hi)).st
  exact h1.2
theorem SH.pt_at (h : SH U w0 w As) {i g : Nat} {C : Array Value} {T : TypeId} (hi : As[i]? = some (pt g C T)) : w.heap[g]? = some (.cells C T (0, 0)) := h.ptf_at hi
theorem set_perm {α : Type} {l : List α} {i : Nat} {a : α} (h : i < l.length) : (a :: l.eraseIdx i).Perm (l.set i a) := by
  have h1 : (l.set i a)[i]? = some a := by simp [h]
  have := perm_erase h1
  rw [List.eraseIdx_set_eq] at this
  exact this.symm
/-- One piece is changed. -/
theorem SH.change (h : SH U w0 w As) {i : Nat} {A A' : HA} (hi : As[i]? = some A) (hg : ∀ f1, A.at_ w f1 → Upd f1 w w' ∧ A'.at_ w' f1) : SH U w0 w' (As.set i A') := by
  obtain ⟨fp, ⟨f1, f2, rfl, h1, h2, h3⟩, h4⟩ := (h.perm (perm_erase hi)).st
  obtain ⟨k1, k2⟩ := hg f1 h1
  have hil : i < As.length := (List.getElem?_eq_some_iff.1 hi).1
  have hst : HSt (A' :: As.eraseIdx i) w' (f1 ++ f2) := ⟨f1, f2, rfl, k2, h2.keep _ _ _ _ fun g hg => k1.block g (h2.live _ _ _ g hg) fun hm => h3 g hm hg, h3⟩
  refine SH.perm ⟨?_, f1 ++ f2, hst, h4⟩ (set_perm hil)
  · refine ⟨k1.os.trans h.upd.os, k1.tape.trans h.upd.tape, k1.output.trans h.upd.output, Nat.le_trans h.upd.size k1.size, fun k hk hn => ?_⟩
    rw [k1.block k (Nat.lt_of_lt_of_le hk h.upd.size) fun hm => ?_]
    · exact h.upd.block k hk hn
    · rcases h4 k (List.mem_append_left _ hm) with h5 | h5
      · omega
      · exact hn h5
theorem SH.setCells (h : SH U w0 w As) {i g : Nat} {C : Array Value} {T : TypeId} (hi : As[i]? = some (pt g C T)) (off : Nat) (vs : List Value) : SH U w0 (w.setCells g off vs) (As.set i (pt g (setL C off vs) T)) := by
  obtain ⟨k1, k2, k3⟩ := setCells_blk (t := T) vs off w C (h.pt_at hi)
  exact h.change hi fun f1 hf => by rw [show f1 = [g] from hf.1]; exact ⟨k2, rfl, k1⟩
/-- New memory. -/
theorem SH.add (h : SH U w0 w As) {g : Nat} {C : Array Value} {T : TypeId} (hb : w.heap[g]? = some (.cells C T (0, 0))) (hg : w0.heap.size ≤ g) (hn : ∀ fp, HSt As w fp → (∀ g ∈ fp, w0.heap.size ≤ g ∨ g ∈ U) → g ∉ fp) : SH U w0 w (As ++ [pt g C T]) := by
  obtain ⟨fp, h1, h2⟩ := h.st
  refine ⟨h.upd, fp ++ [g], h1.app ⟨[g], [], rfl, ⟨rfl, hb⟩, rfl, by simp⟩ fun k hk hm => ?_, fun k hk => ?_⟩
  · simp at hm; subst hm; exact hn fp h1 h2 hk
  · rcases List.mem_append.1 hk with hk | hk
    · exact h2 k hk
    · simp at hk; subst hk; exact .inl hg
/-- Memory that a step has made. -/
theorem SH.fresh (h : SH U w0 w As) (hg : Gr w w') {g : Nat} {C : Array Value} {T : TypeId} (hb : w'.heap[g]? = some (.cells C T (0, 0))) (hge : w.heap.size ≤ g) : SH U w0 w' (As ++ [pt g C T]) := by
  obtain ⟨fp, h1, h2⟩ := h.st
  have hlive := h1.live
  refine ⟨h.upd.gr hg, fp ++ [g], (h1.keep _ _ _ _ fun k hm => hg.block k (hlive k hm)).app ⟨[g], [], rfl, ⟨rfl, hb⟩, rfl, by simp⟩ fun k hk hm => ?_, fun k hk => ?_⟩
  · simp at hm; subst hm; have := hlive k hk; omega
  · rcases List.mem_append.1 hk with hk | hk
    · exact h2 k hk
    · simp at hk; subst hk; exact .inl (Nat.le_trans h.upd.size hge)
theorem SH.alloc (h : SH U w0 w As) (C : Array Value) (T : TypeId) : SH U w0 (w.alloc (.cells C T)) (As ++ [pt w.heap.size C T]) :=
  h.fresh ((Gr.refl w).alloc _) (heap_alloc_new _ _) (Nat.le_refl _)
theorem SH.drop (h : SH U w0 w As) (i : Nat) (hi : i < As.length) : SH U w0 w (As.eraseIdx i) := by
  have hi' : As[i]? = some As[i] := by simp [hi]
  obtain ⟨fp, ⟨f1, f2, rfl, h1, h2, h3⟩, h4⟩ := (h.perm (perm_erase hi')).st
  exact ⟨h.upd, f2, h2, fun g hg => h4 g (List.mem_append_right _ hg)⟩
end
theorem SH.pick {U : List Nat} {w0 w : World} {As Pre Rest : List HA} (h : SH U w0 w As) (is : List Nat) (hp : pickL is As = some (Pre, Rest)) : SH U w0 w Pre := by
  obtain ⟨fp, h1, h2⟩ := (h.perm (pickL_perm is As Pre Rest hp)).st
  obtain ⟨f1, f2, rfl, h3, h4, h5⟩ := h1.split
  exact ⟨h.upd, f1, h3, fun g hg => h2 g (List.mem_append_left _ hg)⟩
/-- A function's contract over pieces of memory: those it takes, and those it leaves. -/
def Tr (P : Program) (f : FuncId) (args : Array Value) (w : World) (Pre : List HA) (R : Value → List HA → Prop) : Prop :=
  ∀ fp, HSt Pre w fp → Calls P f args w fun e w' => ∃ v Q fp', e = .returned v ∧ R v Q ∧ HSt Q w' fp' ∧ Upd fp w w' ∧ ∀ g ∈ fp', g ∈ fp ∨ w.heap.size ≤ g
section
variable {U : List Nat} {w0 w w' : World} {As Pre Rest : List HA} {is : List Nat}
theorem SH.call {P : Program} {f : FuncId} {args : Array Value} {R : Value → List HA → Prop} (h : SH U w0 w As) (hp : pickL is As = some (Pre, Rest)) (ht : Tr P f args w Pre R) :
    Calls P f args w fun e w' => ∃ v Q, e = .returned v ∧ R v Q ∧ SH U w0 w' (Q ++ Rest) := by
  obtain ⟨fp, h1, h2⟩ := (h.perm (pickL_perm is As Pre Rest hp)).st
  obtain ⟨f1, f2, rfl, h3, h4, h5⟩ := h1.split
  refine (ht f1 h3).mono fun e w' hx => ?_
  obtain ⟨v, Q, fp', rfl, hR, h6, h7, h8⟩ := hx
  refine ⟨v, Q, rfl, hR, ?_, fp' ++ f2, h6.app (h4.keep _ _ _ _ fun g hg => h7.block g (h4.live _ _ _ g hg) fun hm => h5 g hm hg) fun g hg hm => ?_, fun g hg => ?_⟩
  · refine ⟨h7.os.trans h.upd.os, h7.tape.trans h.upd.tape, h7.output.trans h.upd.output, Nat.le_trans h.upd.size h7.size, fun k hk hn => ?_⟩
    rw [h7.block k (Nat.lt_of_lt_of_le hk h.upd.size) fun hm => ?_]
    · exact h.upd.block k hk hn
    · rcases h2 k (List.mem_append_left _ hm) with h9 | h9
      · omega
      · exact hn h9
  · rcases h8 g hg with h9 | h9
    · exact h5 g h9 hm
    · have := h4.live _ _ _ g hm; omega
  · rcases List.mem_append.1 hg with hg | hg
    · rcases h8 g hg with h9 | h9
      · exact h2 g (List.mem_append_left _ h9)
      · exact .inl (Nat.le_trans h.upd.size h9)
    · exact h2 g (List.mem_append_right _ hg)
/-- The end of a function that is told over pieces. -/
theorem Tr.of {P : Program} {f : FuncId} {args : Array Value} {R : Value → List HA → Prop} (h : ∀ U, SH U w w Pre → Calls P f args w fun e w' => ∃ v Q, e = .returned v ∧ R v Q ∧ SH U w w' Q) : Tr P f args w Pre R := fun fp hfp => by
  refine (h fp (SH.init hfp)).mono fun e w' hx => ?_
  obtain ⟨v, Q, rfl, hR, hs⟩ := hx
  obtain ⟨fp', h1, h2⟩ := hs.st
  exact ⟨v, Q, fp', rfl, hR, h1, hs.upd, fun g hg => (h2 g hg).symm⟩
theorem Tr.mono {P : Program} {f : FuncId} {args : Array Value} {R R' : Value → List HA → Prop} (h : Tr P f args w Pre R) (hr : ∀ v Q, R v Q → R' v Q) : Tr P f args w Pre R' := fun fp hfp => (h fp hfp).mono fun e w' hx => by
  obtain ⟨v, Q, fp', rfl, h1, h2⟩ := hx; exact ⟨v, Q, fp', rfl, hr _ _ h1, h2⟩
end
end Go.Proofs.Ytaeppimldbknhaa

namespace Go.Proofs.Ytaeppimldbknhaa
set_option linter.unusedSimpArgs false
set_option linter.unusedVariables false
open Go.RowKit
set_option linter.unusedVariables false

section
variable {P : Program} {n : Nat} {ops : Array Oper} {Q : Post} {l : List Oper} {e : Nat → Value} {w0 w : World} {o : Oper} {U : List Nat} {L As Pre Rest : List HA}
theorem SL.newH {mk : Nat → Value} {C : Array Value} {T : TypeId} (hs : SH U w0 w L) (hg : o.guard = none) (hd : dok n o.dst = true) (hrun : (execOp (evE e) o).run P w = .ok (.value (mk w.heap.size)) (w.alloc (.cells C T)))
    (h : ∀ g w', SH U w0 w' (L ++ [pt g C T]) → SL P n ops Q l (dput e o.dst (mk g)) w') : SL P n ops Q (o :: l) e w :=
  SL.val hg hd hrun (h _ _ (hs.alloc C T))
theorem SL.storeH {ty : TypeId} {x y : Operand} {i g off : Nat} {C C' : Array Value} {T : TypeId} {v : Value} {L' : List HA} (hs : SH U w0 w L) (hg : o.guard = none) (hd : o.dst = none) (ho : o.op = .store ty x y)
    (hx : evE e x = .pointer (some ⟨g, off, none⟩)) (hy : evE e y = v) (hL : L[i]? = some (pt g C T)) (hi : (P.info? ty).map (·.size) = some v.cells.size) (h1 : v.cells.all (·.oneCell') = true) (hroom : Nat.ble (off + v.cells.size) C.size = true)
    (hC : setL C off v.cells.toList = C') (hL' : L.set i (pt g C' T) = L') (h : ∀ w', SH U w0 w' L' → SL P n ops Q l e w') : SL P n ops Q (o :: l) e w := by
  subst hC; subst hL'; subst hy
  refine SL.skip hg hd ?_ (h _ (hs.setCells hL off _))
  unfold execOp
  simp only [ho, hx, Sem.run_bind, run_st (hs.pt_at hL) hi h1 hroom, Result.andThen_ok, Sem.run_pure]
/-- A call over pieces. -/
theorem SL.callH {f : FuncId} {args : Array Value} {R : Value → List HA → Prop} (is : List Nat) (hs : SH U w0 w As) (hg : o.guard = none) (hd : dok n o.dst = true) (hrun : (execOp (evE e) o).run P w = .ok (.enter f args) w)
    (hp : pickL is As = some (Pre, Rest)) (ht : Tr P f args w Pre R) (h : ∀ v Qs w', R v Qs → SH U w0 w' (Qs ++ Rest) → SL P n ops Q l (dput e o.dst v) w') : SL P n ops Q (o :: l) e w :=
  SL.call hg hd hrun (hs.call hp ht) fun x w' hx => by
    obtain ⟨v, Qs, rfl, hR, hs'⟩ := hx; exact ⟨v, rfl, h v Qs w' hR hs'⟩
/-- A loop by a relation, and what grows less. -/
theorem CW.loopI {c : Code} (I : Nat → (Nat → Value) → World → Prop) (h0 : ∃ i, I i e w)
    (round : ∀ i e w, I i e w → CW P n c (PThen (fun e' w' => ∃ i', I i' e' w' ∧ i' < i) Q) e w) : CW P n (.loop c) Q e w := by
  obtain ⟨i, h0⟩ := h0
  have key : ∀ k i e w, i < k → I i e w → CR P n c Q k e w := by
    intro k
    induction k with
    | zero => intro i e w hi; omega
    | succ k ih =>
      intro i e w hi hI
      refine (round i e w hI).mono fun x e' w' hx => ?_
      cases x with
      | normal =>
        obtain ⟨i', h1, h2⟩ := hx
        exact ih i' e' w' (by omega) h1
      | _ => exact hx
  exact CW.loopN (i + 1) (key _ i e w (Nat.lt_succ_self i) h0)
/-! ### append -/
theorem run_appop {P : Program} {e : Nat → Value} {w : World} {o : Oper} {x y : Operand} {t tx : TypeId} {v yv v' : Value} {w' : World} (ho : o.op = .call { callee := .builtin .append, args := #[x, y], argTypes := #[t, tx] }) (hx : evE e x = v) (hy : evE e y = yv)
    (hr : (Builtin.append_ #[t, tx] o.type #[v, yv]).run P w = .ok v' w') : (execOp (evE e) o).run P w = .ok (.value v') w' := by
  subst hx; subst hy
  unfold execOp
  simp only [ho, resolve, invoke, builtin, Sem.run_bind, Sem.run_pure, Result.andThen_ok, List.map_toArray, List.map_cons, List.map_nil, hr]
/-- A row as a source. -/
theorem srcH {P : Program} {w : World} {g off n cap size : Nat} {t el el' : TypeId} {cs : List Value} {C : Array Value} {fr : Nat × Nat} (ht : P.underlying t = some (.slice el)) (hb : w.heap[g]? = some (.cells C el' fr)) (hC : (C.toList.drop off).take (n * size) = cs) (hn : cs.length = n * size) (h1 : ∀ c ∈ cs, c.oneCell' = true) :
    Src P size t (.slice (some ⟨g, off, none⟩) n cap) n cs w :=
  Src.ofSlice w ht _ n cap cs hn (fun j v hv => by
    subst hC
    have hv' : C[off + j]? = some v := by
      rw [List.getElem?_take] at hv
      split at hv
      · rw [List.getElem?_drop] at hv; simpa using hv
      · cases hv
    have hc := cell_of_row hb _ v hv'
    have e : (⟨g, off, none⟩ : Addr).add j = ⟨g, off + j, none⟩ := by rcases j with _ | j <;> simp [Addr.add]
    rw [e]; exact hc) h1
end
end Go.Proofs.Ytaeppimldbknhaa

namespace Go.Proofs.Ytaeppimldbknhaa
set_option linter.unusedSimpArgs false
set_option linter.unusedVariables false
open Go.RowKit
set_option linter.unusedVariables false

/-- Texts alike? -/
def seqB (a b : ByteArray) : Bool := a.data.toList == b.data.toList
theorem seqB_self (a : ByteArray) : seqB a a = true := by simp [seqB]
theorem seqB_eq {a b : ByteArray} (h : seqB a b = true) : a = b := by
  unfold seqB at h
  have h : a.data.toList = b.data.toList := by simpa using h
  cases a; cases b
  simp only [ByteArray.mk.injEq]
  exact Array.toList_inj.1 h
theorem tol (a : ByteArray) : a.toList = a.data.toList := ByteArray.toList_eq a
section
variable {P : Program} {e : Nat → Value} {w : World} {o : Oper}
theorem run_streq {t t' : TypeId} {x y : Operand} {a b : ByteArray} (ho : o.op = .binOp .eql t x y t') (hx : evE e x = .string a) (hy : evE e y = .string b) : (execOp (evE e) o).run P w = .ok (.value (.bool (seqB a b))) w := by
  unfold execOp seqB
  simp [ho, hx, hy, eqGuard, binOp_string_eql, tol, Sem.run_bind, Result.andThen_ok, Sem.run_pure]
theorem run_strne {t t' : TypeId} {x y : Operand} {a b : ByteArray} (ho : o.op = .binOp .neq t x y t') (hx : evE e x = .string a) (hy : evE e y = .string b) : (execOp (evE e) o).run P w = .ok (.value (.bool (!seqB a b))) w := by
  unfold execOp seqB
  simp [ho, hx, hy, eqGuard, binOp_string_neq, tol, Sem.run_bind, Result.andThen_ok, Sem.run_pure]
/-- A text's length. -/
theorem run_slen {t : TypeId} {x : Operand} {a : ByteArray} {n : Nat} (ho : o.op = .call { callee := .builtin .len, args := #[x], argTypes := #[t] }) (hx : evE e x = .string a) (ht : P.underlying t = some .string) (hn : a.size = n) :
    (execOp (evE e) o).run P w = .ok (.value (.int .i64 (n : Int))) w := by
  subst hn
  unfold execOp
  simp [ho, hx, resolve, invoke, builtin, Sem.run_bind, Sem.run_pure, Result.andThen_ok, run_len_string w t _ a ht, goInt]
theorem sizeof_of {t : TypeId} {s : Nat} (h : (P.info? t).map (·.size) = some s) (w : World) : (sizeOf t).run P w = .ok s w := by
  cases hq : P.info? t with
  | none => simp [hq] at h
  | some j => simp [hq] at h; simp [sizeOf, typeInfo, hq, h]
/-- An element's place. -/
theorem run_ix {t : TypeId} {x y : Operand} {g off len cap size i : Nat} {q : IntKind} {I : Int} (ho : o.op = .indexAddr t x y) (hx : evE e x = .slice (some ⟨g, off, none⟩) len cap) (hy : evE e y = .int q I) (hI : I = (i : Int)) (ht : P.underlying t = some (.slice (P.elem t))) (hs : (P.info? (P.elem t)).map (·.size) = some size) (hi : i < len) :
    (execOp (evE e) o).run P w = .ok (.value (.pointer (some ⟨g, off + i * size, none⟩))) w := by
  subst hI
  have h1 : (0 : Int) ≤ (i : Int) ∧ (i : Int) < (len : Int) := by omega
  have e1 : (⟨g, off, none⟩ : Addr).add (i * size) = ⟨g, off + i * size, none⟩ := by simp [Addr.add]
  unfold execOp
  simp only [ho, hx, hy, Sem.run_bind, run_indexAt_slice w t _ len cap q _ ht, if_pos h1, sizeof_of hs, Result.andThen_ok, Int.toNat_natCast, e1, Sem.run_pure]
end
/-! ### What is read from a row -/
/-- A variable of one cell, read. -/
theorem ldV_one {P : Program} {ty : TypeId} {C : Array Value} {off : Nat} {v : Value} (hu : (P.underlying ty).map (·.isRow) = some false) (hi : ((P.info? ty).map (·.size)).isSome = true) (h : C[off]? = some v) : ldV P ty C off = some v := by
  unfold ldV
  cases h1 : P.underlying ty with
  | none => rw [h1] at hu; cases hu
  | some d =>
    rw [h1] at hu
    simp only [Option.map_some, Option.some.injEq] at hu
    cases h2 : (P.info? ty).map (·.size) with
    | none => rw [h2] at hi; cases hi
    | some k => simp only [hu]; exact h
/-- A struct, read. -/
theorem ldV_row {P : Program} {ty : TypeId} {C : Array Value} {off k : Nat} {cs : List Value} (hu : (P.underlying ty).map (·.isRow) = some true) (hi : (P.info? ty).map (·.size) = some k) (h : (C.toList.drop off).take k = cs) (hl : cs.length = k) (hk : Nat.blt 0 k = true) : ldV P ty C off = some (.agg cs.toArray) := by
  have hk' : 0 < k := by simpa using hk
  unfold ldV
  cases h1 : P.underlying ty with
  | none => rw [h1] at hu; cases hu
  | some d =>
    rw [h1] at hu
    simp only [Option.map_some, Option.some.injEq] at hu
    rw [hi]
    have hb : Nat.ble (off + k) C.size = true := by
      subst h
      simp at hl
      simp
      omega
    simp only [hu, if_true, hb, h]
section
variable {P : Program} {e : Nat → Value} {w : World} {o : Oper}
theorem run_streqB {t t' : TypeId} {x y : Operand} {a b : ByteArray} {c : Bool} (ho : o.op = .binOp .eql t x y t') (hx : evE e x = .string a) (hy : evE e y = .string b) (h : seqB a b = c) : (execOp (evE e) o).run P w = .ok (.value (.bool c)) w := by
  rw [← h]; exact run_streq ho hx hy
theorem run_strneB {t t' : TypeId} {x y : Operand} {a b : ByteArray} {c : Bool} (ho : o.op = .binOp .neq t x y t') (hx : evE e x = .string a) (hy : evE e y = .string b) (h : seqB a b = c) : (execOp (evE e) o).run P w = .ok (.value (.bool (!c))) w := by
  rw [← h]; exact run_strne ho hx hy
end
section
variable {P : Program} {e : Nat → Value} {w : World} {o : Oper}
theorem guard_bool {op : BinOp} {t : TypeId} {x y : Operand} {a b : Bool} : (eqGuard op t x y (.bool a) (.bool b)).run P w = .ok () w := by
  cases op <;> rfl
theorem run_boolne {t t' : TypeId} {x y : Operand} {a b c : Bool} (ho : o.op = .binOp .neq t x y t') (hx : evE e x = .bool a) (hy : evE e y = .bool b) (ht : P.underlying t = some .bool) (h : (!(a == b)) = c) : (execOp (evE e) o).run P w = .ok (.value (.bool c)) w := by
  unfold execOp
  simp only [ho, hx, hy, Sem.run_bind, guard_bool, run_neq_bool w t a b ht, Result.andThen_ok, Sem.run_pure, h]
theorem run_booleq {t t' : TypeId} {x y : Operand} {a b c : Bool} (ho : o.op = .binOp .eql t x y t') (hx : evE e x = .bool a) (hy : evE e y = .bool b) (ht : P.underlying t = some .bool) (h : (a == b) = c) : (execOp (evE e) o).run P w = .ok (.value (.bool c)) w := by
  unfold execOp
  simp only [ho, hx, hy, Sem.run_bind, guard_bool, run_eql_bool w t a b ht, Result.andThen_ok, Sem.run_pure, h]
end
end Go.Proofs.Ytaeppimldbknhaa

namespace Go.Proofs.Ytaeppimldbknhaa
set_option linter.unusedSimpArgs false
set_option linter.unusedVariables false
open Go.RowKit
set_option linter.unusedVariables false

theorem ownsRow_keep {w w' : World} {B T size n : Nat} {v : Value} {xs : List Value} (h : w.ownsRow B T size v n xs) (hk : ∀ g ∈ v.ownBlock.toList, w'.heap[g]? = w.heap[g]?) : w'.ownsRow B T size v n xs := by
  obtain ⟨h1, h2 | ⟨g, cap, cur, rfl, h3, h4, h5⟩⟩ := h
  · exact ⟨h1, .inl h2⟩
  · exact ⟨h1, .inr ⟨g, cap, cur, rfl, h3, (hk g (by simp [Value.ownBlock])).trans h4, h5⟩⟩
/-- A row: nothing, or a block from its first cell on. -/
def rowH (T : TypeId) (size : Nat) (a : Option Addr) (n c : Nat) (xs : List Value) : HA where
  at_ w fp := w.ownsRow 0 T size (.slice a n c) n xs ∧ fp = (Value.slice a n c).ownBlock.toList
  keep w w' fp h hk := ⟨ownsRow_keep h.1 (by rw [← h.2]; exact hk), h.2⟩
  live w fp h g hg := by
    obtain ⟨⟨h1, h2 | ⟨g', cap, cur, hv, h3, h4, h5⟩⟩, rfl⟩ := h
    · rw [h2.1] at hg; simp [Value.ownBlock] at hg
    · rw [hv] at hg; simp [Value.ownBlock] at hg; subst hg; exact heap_lt h4
section
variable {P : Program} {n : Nat} {ops : Array Oper} {Q : Post} {l : List Oper} {e : Nat → Value} {w0 w w' : World} {o : Oper} {U : List Nat} {L As : List HA}
theorem SH.get (h : SH U w0 w As) {i : Nat} {A : HA} (hi : As[i]? = some A) : ∃ f, A.at_ w f := by
  obtain ⟨fp, ⟨f1, f2, rfl, h1, _⟩, _⟩ := (h.perm (perm_erase hi)).st
  exact ⟨f1, h1⟩
theorem SH.row_at (h : SH U w0 w As) {i T size m c : Nat} {a : Option Addr} {xs : List Value} (hi : As[i]? = some (rowH T size a m c xs)) : w.ownsRow 0 T size (.slice a m c) m xs := by
  obtain ⟨f, h1⟩ := h.get hi; exact h1.1
/-- A piece becomes another one, that lies where it lay or is new. -/
theorem SH.become (h : SH U w0 w As) {i : Nat} {A A' : HA} (hi : As[i]? = some A) (hA : ∀ f1, A.at_ w f1 → ∃ f1', A'.at_ w' f1' ∧ Upd f1 w w' ∧ ∀ g ∈ f1', g ∈ f1 ∨ w.heap.size ≤ g) : SH U w0 w' (As.eraseIdx i ++ [A']) := by
  obtain ⟨fp, ⟨f1, f2, rfl, h1, h2, h3⟩, h4⟩ := (h.perm (perm_erase hi)).st
  obtain ⟨f1', k1, k2, k3⟩ := hA f1 h1
  have hlive := h2.live
  refine ⟨?_, f2 ++ (f1' ++ []), (h2.keep _ _ _ _ fun k hk => k2.block k (hlive k hk) fun hm => h3 k hm hk).app ⟨f1', [], rfl, k1, rfl, by simp⟩ fun k hk hm => ?_, fun k hk => ?_⟩
  · refine ⟨k2.os.trans h.upd.os, k2.tape.trans h.upd.tape, k2.output.trans h.upd.output, Nat.le_trans h.upd.size k2.size, fun k hk hn => ?_⟩
    rw [k2.block k (Nat.lt_of_lt_of_le hk h.upd.size) fun hm => ?_]
    · exact h.upd.block k hk hn
    · rcases h4 k (List.mem_append_left _ hm) with h5 | h5
      · omega
      · exact hn h5
  · rw [List.append_nil] at hm
    rcases k3 k hm with h5 | h5
    · exact h3 k h5 hk
    · have := hlive k hk; omega
  · rw [List.append_nil] at hk
    rcases List.mem_append.1 hk with hk | hk
    · exact h4 k (List.mem_append_right _ hk)
    · rcases k3 k hk with h5 | h5
      · exact h4 k (List.mem_append_left _ h5)
      · exact .inl (Nat.le_trans h.upd.size h5)
/-- Nothing is a row. -/
theorem SH.row0 (h : SH U w0 w As) (T size : Nat) : SH U w0 w (As ++ [rowH T size Option.none 0 0 []]) := by
  obtain ⟨fp, h1, h2⟩ := h.st
  exact ⟨h.upd, fp ++ [], h1.app ⟨[], [], rfl, ⟨World.ownsRow_nil w 0 T size, rfl⟩, rfl, by simp⟩ (by simp), by simpa using h2⟩
/-- append to a row. -/
theorem SL.appR {x y : Operand} {t tx el : TypeId} (hs : SH U w0 w L) (hg : o.guard = none) (hd : dok n o.dst = true) (ho : o.op = .call { callee := .builtin .append, args := #[x, y], argTypes := #[t, tx] }) {z : Value} {size bytes : Nat} (ht : P.underlying t = some (.slice el)) (hinfo : (P.info? el).map (fun i => (i.zero, i.size, i.bytes)) = some (some z, size, bytes))
    (hzs : z.cells.size = size) (hsz : Nat.blt 0 size = true) (hby : Nat.ble bytes 1000 = true) {i k c : Nat} {a : Option Addr} {xs : List Value} (hx : evE e x = .slice a k c) (hL : L[i]? = some (rowH el size a k c xs))
    {yv : Value} {m : Nat} {news : List Value} (hy : evE e y = yv) (hsr : Src P size tx yv m news w) (hn : k + m ≤ 100000000) {xs' : List Value} (hxs : xs ++ news = xs') {k' : Nat} (hk : k + m = k') {L' : List HA} (hL' : L.eraseIdx i = L')
    (H : ∀ a' c' w', SH U w0 w' (L' ++ [rowH el size a' k' c' xs']) → SL P n ops Q l (dput e o.dst (.slice a' k' c')) w') : SL P n ops Q (o :: l) e w := by
  subst hxs; subst hk; subst hL'
  obtain ⟨i0, hi0, hz0, hz1, hz2⟩ := info_parts hinfo
  have hown := hs.row_at hL
  obtain ⟨v', w', hrun, h2, h3, h4⟩ := run_append_src_own (P := P) w 0 t tx o.type el i0 z size bytes ht hi0 hz0 hz1 hz2 hzs (by simpa using hsz) _ k xs hown yv m news hsr (by simp only [maxLen]; omega)
    (by have : (k + m) * bytes ≤ (k + m) * 1000 := Nat.mul_le_mul_left _ (by simpa using hby); omega) (Nat.zero_le _)
  obtain ⟨a', c', rfl⟩ : ∃ a' c', v' = .slice a' (k + m) c' := by
    rcases h2.2 with ⟨rfl, h0⟩ | ⟨g', cap', cur, rfl, _⟩
    · exact ⟨none, 0, by rw [h0]⟩
    · exact ⟨_, cap', rfl⟩
  refine SL.val hg hd (run_appop ho hx hy hrun) (H a' c' w' (hs.become hL fun f1 hf => ⟨_, ⟨h2, rfl⟩, by rw [hf.2]; exact Upd.of_grown h3, fun k hk => ?_⟩))
  rcases h4 with h4 | h4
  · rw [h4] at hk; exact .inl (by rw [hf.2]; exact hk)
  · rw [h4] at hk; simp at hk; exact .inr (by omega)
/-- A row is a source. -/
theorem srcRow {T size m c tx : Nat} {a : Option Addr} {xs : List Value} (hr : w.ownsRow 0 T size (.slice a m c) m xs) (ht : P.underlying tx = some (.slice T)) (h1 : ∀ x ∈ xs, x.oneCell' = true) : Src P size tx (.slice a m c) m xs w := by
  obtain ⟨hl, ⟨hv, h0⟩ | ⟨g, cap, cur, hv, _, h4, h5, h6, h7, h8⟩⟩ := hr
  · simp only [Value.slice.injEq] at hv
    obtain ⟨rfl, _, rfl⟩ := hv
    subst h0
    have : xs = [] := List.eq_nil_of_length_eq_zero (by simpa using hl)
    subst this
    exact Src.ofNil w ht 0
  · simp only [Value.slice.injEq] at hv
    obtain ⟨rfl, _, rfl⟩ := hv
    exact srcH (off := 0) ht h4 (by simpa using h8) hl h1
end
section
variable {w0 w : World} {U : List Nat} {As : List HA}
end
end Go.Proofs.Ytaeppimldbknhaa

namespace Go.Proofs.Ytaeppimldbknhaa
set_option linter.unusedSimpArgs false
set_option linter.unusedVariables false
open Go.RowKit
set_option linter.unusedVariables false

section
variable {P : Program} {n : Nat} {l : List Oper} {Q : Post} {e : Nat → Value} {w : World}
end
/-- A store, over pieces. -/
theorem HSt.setCells {P : List HA} : ∀ {w : World} {fp : List Nat} {i g : Nat} {C : Array Value} {T : TypeId} (h : HSt P w fp) (hi : P[i]? = some (pt g C T)) (off : Nat) (vs : List Value), HSt (P.set i (pt g (setL C off vs) T)) (w.setCells g off vs) fp ∧ Upd fp w (w.setCells g off vs) := by
  induction P with
  | nil => intro w fp i g C T h hi; simp at hi
  | cons A l ih =>
    rintro w fp i g C T ⟨f1, f2, rfl, h1, h2, h3⟩ hi off vs
    cases i with
    | zero =>
      simp only [List.getElem?_cons_zero, Option.some.injEq] at hi
      subst hi
      obtain ⟨k1, k2, k3⟩ := setCells_blk (t := T) vs off w C h1.2
      have e1 : f1 = [g] := h1.1
      subst e1
      refine ⟨⟨[g], f2, rfl, ⟨rfl, k1⟩, h2.keep _ _ _ _ fun k hk => k2.block k (h2.live _ _ _ k hk) fun hm => h3 k hm hk, h3⟩, k2.mono fun k hk _ => List.mem_append_left _ hk⟩
    | succ i =>
      simp only [List.getElem?_cons_succ] at hi
      obtain ⟨q1, q2⟩ := ih h2 hi off vs
      exact ⟨⟨f1, f2, rfl, A.keep _ _ _ h1 fun k hk => q2.block k (A.live _ _ h1 k hk) fun hm => h3 k hk hm, q1, h3⟩, q2.mono fun k hk _ => List.mem_append_right _ hk⟩
theorem HSt.pt_at {P : List HA} : ∀ {w : World} {fp : List Nat} {i g : Nat} {C : Array Value} {T : TypeId} (h : HSt P w fp) (hi : P[i]? = some (pt g C T)), w.heap[g]? = some (.cells C T (0, 0)) := by
  induction P with
  | nil => intro w fp i g C T h hi; simp at hi
  | cons A l ih =>
    rintro w fp i g C T ⟨f1, f2, rfl, h1, h2, h3⟩ hi
    cases i with
    | zero =>
      simp only [List.getElem?_cons_zero, Option.some.injEq] at hi
      subst hi
      exact h1.2
    | succ i => exact ih h2 (by simpa using hi)
theorem OpE.store {P : Program} {e : Nat → Value} {o : Oper} {w : World} {K : Value → World → Prop} {ty : TypeId} {x y : Operand} {g off : Nat} {C : Array Value} {T : TypeId} {v : Value} (ho : o.op = .store ty x y) (hx : evE e x = .pointer (some ⟨g, off, none⟩)) (hy : evE e y = v) (hb : w.heap[g]? = some (.cells C T (0, 0)))
    (hi : (P.info? ty).map (·.size) = some v.cells.size) (h1 : v.cells.all (·.oneCell') = true) (hroom : Nat.ble (off + v.cells.size) C.size = true) (h : K undef (w.setCells g off v.cells.toList)) : OpE P e o w K := by
  subst hy
  refine .skip _ ?_ h
  unfold execOp
  simp only [ho, hx, Sem.run_bind, run_st hb hi h1 hroom, Result.andThen_ok, Sem.run_pure]
/-- What one piece changes, the others keep. -/
theorem SH.frame {U : List Nat} {w0 ws : World} {As Pre Rest : List HA} (h : SH U w0 ws As) (is : List Nat) (hp : pickL is As = some (Pre, Rest)) :
    ∃ fj, HSt Pre ws fj ∧ ∀ (W : World) (Q : List HA) (f' : List Nat), Upd fj ws W → HSt Q W f' → (∀ g ∈ f', g ∈ fj ∨ ws.heap.size ≤ g) → SH U w0 W (Q ++ Rest) := by
  obtain ⟨fp, h1, h2⟩ := (h.perm (pickL_perm is As Pre Rest hp)).st
  obtain ⟨f1, f2, rfl, h3, h4, h5⟩ := h1.split
  refine ⟨f1, h3, fun W Q f' hu hq hf => ⟨?_, f' ++ f2, hq.app (h4.keep _ _ _ _ fun g hg => hu.block g (h4.live _ _ _ g hg) fun hm => h5 g hm hg) fun g hg hm => ?_, fun g hg => ?_⟩⟩
  · refine ⟨hu.os.trans h.upd.os, hu.tape.trans h.upd.tape, hu.output.trans h.upd.output, Nat.le_trans h.upd.size hu.size, fun k hk hn => ?_⟩
    rw [hu.block k (Nat.lt_of_lt_of_le hk h.upd.size) fun hm => ?_]
    · exact h.upd.block k hk hn
    · rcases h2 k (List.mem_append_left _ hm) with h9 | h9
      · omega
      · exact hn h9
  · rcases hf g hg with h9 | h9
    · exact h5 g h9 hm
    · have := h4.live _ _ _ g hm; omega
  · rcases List.mem_append.1 hg with hg | hg
    · rcases hf g hg with h9 | h9
      · exact h2 g (List.mem_append_left _ h9)
      · exact .inl (Nat.le_trans h.upd.size h9)
    · exact h2 g (List.mem_append_right _ hg)
end Go.Proofs.Ytaeppimldbknhaa
