/-
  Rows of structs as pieces: their elements are read.
  Calls of methods through interfaces.
  Contracts that lean on what none of their pieces holds.
  Regions that draw their order, where an operation's guard may itself be left out.
  append to a row without room: new memory alone.
-/
import Derived.Deep.Upon
import Derived.Test.YtaelmkkobjdgbaaZHf
import Derived.Test.YtaelmkkobjdgbaaZSq
namespace Go.Proofs.Ytaelmkkobjdgbaa
set_option linter.unusedSimpArgs false
set_option linter.unusedVariables false
open Go.RowKit
set_option linter.unusedVariables false

/-- The cells of a block. -/
def blkC (w : World) (g : Nat) : Array Value := match w.heap[g]? with
  | some (.cells C _ _) => C
  | _ => #[]
theorem blkC_eq {w : World} {g : Nat} {C : Array Value} {T : TypeId} {fr : Nat × Nat} (h : w.heap[g]? = some (.cells C T fr)) : blkC w g = C := by
  unfold blkC; rw [h]
/-- Elements of several cells, one behind the other. -/
def flC {α : Type} (f : α → List Value) (l : List α) : List Value := l.flatMap f
section
variable {α : Type} {f : α → List Value} {k : Nat}
theorem flC_len (hf : ∀ x, (f x).length = k) (l : List α) : (flC f l).length = l.length * k := by
  induction l with
  | nil => simp [flC]
  | cons x l ih =>
    have : flC f (x :: l) = f x ++ flC f l := rfl
    rw [this, List.length_append, ih, hf, List.length_cons, Nat.add_mul]; omega
theorem flC_app (l m : List α) : flC f l ++ flC f m = flC f (l ++ m) := by simp [flC]
theorem flC_drop (hf : ∀ x, (f x).length = k) : ∀ (l : List α) (i : Nat) (d : α), i < l.length → (flC f l).drop (i * k) = f (l.getD i d) ++ flC f (l.drop (i + 1))
  | x :: l, 0, d, _ => by simp [flC]
  | x :: l, i + 1, d, h => by
    have : flC f (x :: l) = f x ++ flC f l := rfl
    have h' : i < l.length := by simpa using h
    have e : (i + 1) * k = (f x).length + i * k := by rw [hf, Nat.add_mul]; omega
    rw [this, e, ← List.drop_drop, List.drop_left, flC_drop hf l i d h']
    simp
theorem flC_get (hf : ∀ x, (f x).length = k) {l : List α} {i j : Nat} {d : α} {v : Value} (h : i < l.length) (hj : (f (l.getD i d))[j]? = some v) : (flC f l)[i * k + j]? = some v := by
  have h1 : ((flC f l).drop (i * k))[j]? = some v := by
    rw [flC_drop hf l i d h, List.getElem?_append_left (List.getElem?_eq_some_iff.1 hj).1]
    exact hj
  rw [List.getElem?_drop] at h1
  exact h1
theorem flC_part (hf : ∀ x, (f x).length = k) {l : List α} {i j m : Nat} {d : α} {cs : List Value} (h : i < l.length) (hj : ((f (l.getD i d)).drop j).take m = cs) (hl : cs.length = m) : ((flC f l).drop (i * k + j)).take m = cs := by
  rw [← List.drop_drop, flC_drop hf l i d h]
  rcases Nat.eq_zero_or_pos m with rfl | hm
  · simp at hl ⊢; exact hl
  · have : m ≤ (f (l.getD i d)).length - j := by
      rw [← hl, ← hj, List.length_take, List.length_drop]; omega
    rw [List.drop_append, List.take_append, hj]
    have e : m - (List.drop j (f (l.getD i d))).length = 0 := by rw [List.length_drop]; omega
    rw [e]; simp
theorem flC_one (h1 : ∀ x, ∀ v ∈ f x, v.oneCell' = true) (l : List α) : ∀ v ∈ flC f l, v.oneCell' = true := by
  intro v hv
  obtain ⟨x, _, hx⟩ := List.mem_flatMap.1 hv
  exact h1 x v hx
end
section
variable {P : Program} {U : List Nat} {w0 w : World} {As : List HA} {i m c size : Nat} {a : Option Addr} {T : TypeId} {xs : List Value}
/-- A row that is not empty lies in a block. -/
theorem SH.row_some (h : SH U w0 w As) (hi : As[i]? = some (rowH T size a m c xs)) (hm : 0 < m) : ∃ g, a = some ⟨g, 0, Option.none⟩ := by
  obtain ⟨_, h2 | ⟨g, cap, cur, hv, _⟩⟩ := h.row_at hi
  · omega
  · simp only [Value.slice.injEq] at hv
    exact ⟨g, hv.1⟩
theorem SH.row_cells (h : SH U w0 w As) {g : Nat} (hi : As[i]? = some (rowH T size (some ⟨g, 0, Option.none⟩) m c xs)) : ∃ C, w.heap[g]? = some (.cells C T (0, 0)) ∧ C.toList.take (m * size) = xs ∧ xs.length = m * size ∧ m ≤ c := by
  obtain ⟨h1, h2 | ⟨g', cap, cur, hv, _, h4, h5, h6, h7, h8⟩⟩ := h.row_at hi
  · simp at h2
  · simp only [Value.slice.injEq, Option.some.injEq, Addr.mk.injEq] at hv
    obtain ⟨⟨rfl, _, _⟩, _, rfl⟩ := hv
    exact ⟨cur, h4, h8, h1, h5⟩
theorem SH.row_blk (h : SH U w0 w As) {g : Nat} (ha : a = some ⟨g, 0, Option.none⟩) (hi : As[i]? = some (rowH T size a m c xs)) : w.heap[g]? = some (.cells (blkC w g) T (0, 0)) := by
  subst ha
  obtain ⟨C, h1, _⟩ := h.row_cells hi
  rw [blkC_eq h1]; exact h1
theorem SH.row_one (h : SH U w0 w As) {g : Nat} (ha : a = some ⟨g, 0, Option.none⟩) (hi : As[i]? = some (rowH T size a m c xs)) {p : Nat} {v : Value} (hp : xs[p]? = some v) : (blkC w g)[p]? = some v := by
  subst ha
  obtain ⟨C, h1, h2, h3, _⟩ := h.row_cells hi
  rw [blkC_eq h1]
  rw [← h2, List.getElem?_take] at hp
  split at hp
  · rw [Array.getElem?_toList] at hp; exact hp
  · cases hp
theorem SH.row_many (h : SH U w0 w As) {g : Nat} (ha : a = some ⟨g, 0, Option.none⟩) (hi : As[i]? = some (rowH T size a m c xs)) {p k : Nat} {cs : List Value} (hp : (xs.drop p).take k = cs) (hl : cs.length = k) : ((blkC w g).toList.drop p).take k = cs := by
  subst ha
  obtain ⟨C, h1, h2, h3, _⟩ := h.row_cells hi
  rw [blkC_eq h1]
  rw [← h2] at hp
  rcases Nat.eq_zero_or_pos k with rfl | hk
  · simp at hl ⊢; exact hl
  · have h4 : k ≤ (List.drop p (List.take (m * size) C.toList)).length := by
      rw [← hl, ← hp, List.length_take]; omega
    rw [List.length_drop, List.length_take] at h4
    rw [← hp, List.drop_take, List.take_take]
    congr 1
    omega
/-- A place in a row. -/
theorem run_ixR {o : Oper} {e : Nat → Value} {t : TypeId} {x y : Operand} {len cap size i g : Nat} {q : IntKind} {I : Int} {a : Option Addr} (ha : a = some ⟨g, 0, Option.none⟩) (ho : o.op = .indexAddr t x y) (hx : evE e x = .slice a len cap) (hy : evE e y = .int q I) (hI : I = (i : Int)) (ht : P.underlying t = some (.slice (P.elem t))) (hs : (P.info? (P.elem t)).map (·.size) = some size) (hi : i < len) :
    (execOp (evE e) o).run P w = .ok (.value (.pointer (some ⟨g, i * size, Option.none⟩))) w := by
  subst ha
  have := run_ix (w := w) ho hx hy hI ht hs hi
  rw [Nat.zero_add] at this
  exact this
end
/-! ### opened rows -/
theorem srow_get {xs pad : List Value} {p : Nat} {v : Value} (h : xs[p]? = some v) : (⟨xs ++ pad⟩ : Array Value)[p]? = some v := by
  rw [← Array.getElem?_toList]
  show (xs ++ pad)[p]? = some v
  rw [List.getElem?_append_left (List.getElem?_eq_some_iff.1 h).1, h]
theorem srow_part {xs pad : List Value} {p m : Nat} {cs : List Value} (h : (xs.drop p).take m = cs) (hl : cs.length = m) : ((⟨xs ++ pad⟩ : Array Value).toList.drop p).take m = cs := by
  show ((xs ++ pad).drop p).take m = cs
  rcases Nat.eq_zero_or_pos m with rfl | hm
  · simp at hl ⊢; exact hl
  · have h1 : m ≤ (xs.drop p).length := by rw [← hl, ← h, List.length_take]; omega
    have h2 : p ≤ xs.length := by rw [List.length_drop] at h1; omega
    rw [List.drop_append_of_le_length h2, List.take_append_of_le_length h1, h]
section
variable {α : Type} {f : α → List Value} {k : Nat}
theorem srow_room (hf : ∀ x, (f x).length = k) {l : List α} {pad : List Value} {i j m : Nat} (hi : i < l.length) (hm : j + m ≤ k) : Nat.ble (i * k + j + m) (⟨flC f l ++ pad⟩ : Array Value).size = true := by
  have h1 : (flC f l).length = l.length * k := flC_len hf l
  have h2 : (i + 1) * k ≤ l.length * k := Nat.mul_le_mul_right k hi
  rw [Nat.add_mul, Nat.one_mul] at h2
  have : (⟨flC f l ++ pad⟩ : Array Value).size = (flC f l).length + pad.length := by simp
  rw [Nat.ble_eq, this, h1]
  omega
theorem flC_take (hf : ∀ x, (f x).length = k) : ∀ (l : List α) (i : Nat), i ≤ l.length → (flC f l).take (i * k) = flC f (l.take i)
  | l, 0, _ => by simp [flC]
  | [], i + 1, h => by simp at h
  | x :: l, i + 1, h => by
    have e1 : flC f (x :: l) = f x ++ flC f l := rfl
    have e2 : (i + 1) * k = (f x).length + i * k := by rw [hf, Nat.add_mul]; omega
    rw [e1, e2, List.take_append, List.take_of_length_le (by omega), Nat.add_sub_cancel_left, flC_take hf l i (by simpa using h)]
    rfl
theorem set_split {l : List α} {i : Nat} {a : α} (h : i < l.length) : l.set i a = l.take i ++ a :: l.drop (i + 1) := List.set_eq_take_append_cons_drop.trans (if_pos h)
/-- Some cells of an element are stored to. -/
theorem flC_setP (hf : ∀ x, (f x).length = k) {l : List α} {pad : List Value} {i j : Nat} {d e : α} {vs : List Value} (hi : i < l.length) (hj : j + vs.length ≤ k) (he : f e = (f (l.getD i d)).take j ++ vs ++ (f (l.getD i d)).drop (j + vs.length)) :
    setL (⟨flC f l ++ pad⟩ : Array Value) (i * k + j) vs = ⟨flC f (l.set i e) ++ pad⟩ := by
  have hroom := srow_room hf (pad := pad) (j := j) (m := vs.length) hi hj
  rw [Nat.ble_eq] at hroom
  apply Array.ext'
  rw [setL_listY vs _ _ hroom]
  show (flC f l ++ pad).take (i * k + j) ++ vs ++ (flC f l ++ pad).drop (i * k + j + vs.length) = flC f (l.set i e) ++ pad
  have hl : (flC f l).length = l.length * k := flC_len hf l
  have h2 : (i + 1) * k ≤ l.length * k := Nat.mul_le_mul_right k hi
  rw [Nat.add_mul, Nat.one_mul] at h2
  have e1 : flC f l = flC f (l.take i) ++ (f (l.getD i d) ++ flC f (l.drop (i + 1))) := by
    rw [← flC_drop hf l i d hi, ← flC_take hf l i (by omega), List.take_append_drop]
  have l1 : (flC f (l.take i)).length = i * k := by rw [flC_len hf, List.length_take]; congr 1; omega
  have l2 : (f (l.getD i d)).length = k := hf _
  have t1 : (flC f l ++ pad).take (i * k + j) = flC f (l.take i) ++ (f (l.getD i d)).take j := by
    rw [List.take_append_of_le_length (by omega), e1, ← l1, List.take_length_add_append, List.take_append_of_le_length (by omega)]
  have t2 : (flC f l ++ pad).drop (i * k + j + vs.length) = (f (l.getD i d)).drop (j + vs.length) ++ flC f (l.drop (i + 1)) ++ pad := by
    rw [List.drop_append_of_le_length (by omega), e1, Nat.add_assoc, ← l1, List.drop_length_add_append, List.drop_append_of_le_length (by omega)]
  have t3 : flC f (l.set i e) = flC f (l.take i) ++ (f e ++ flC f (l.drop (i + 1))) := by
    rw [set_split hi]
    show (l.take i ++ e :: l.drop (i + 1)).flatMap f = _
    rw [List.flatMap_append, List.flatMap_cons]
    rfl
  rw [t1, t2, t3, he]
  simp only [List.append_assoc]
end
end Go.Proofs.Ytaelmkkobjdgbaa

namespace Go.Proofs.Ytaelmkkobjdgbaa
set_option linter.unusedSimpArgs false
set_option linter.unusedVariables false
open Go.RowKit
set_option linter.unusedVariables false

theorem app1_get (x : Value) (a : Array Value) : (#[x] ++ a)[0]? = some x := by
  rw [Array.getElem?_append_left (by simp)]
  rfl
theorem app1_rest (x : Value) (a : Array Value) : (#[x] ++ a).extract 1 (#[x] ++ a).size = a := by
  cases a with
  | mk l =>
    apply Array.ext'
    simp
section
variable {P : Program} {e : Nat → Value} {w : World} {o : Oper}
/-- A method called through an interface value: what 'callMethod' answers. -/
theorem run_inv {recv : Operand} {name : String} {args : Array Operand} {tys : Array TypeId} {v : Value} {f : FuncId} {av bs : Array Value} (ho : o.op = .call { callee := .invoke recv name, args := args, argTypes := tys }) (hr : evE e recv = v) (ha : args.map (evE e) = av)
    (hc : (callMethod v name av).run P w = .ok (.enter f bs) w) : (execOp (evE e) o).run P w = .ok (.enter f bs) w := by
  subst hr; subst ha
  unfold execOp
  simp only [ho, resolve, Sem.run_bind, Sem.run_pure, Result.andThen_ok, invoke, app1_get, app1_rest, hc]
/-- A method of a value, called through a pointer in an interface. -/
theorem run_inv_val {T E : TypeId} {g : Nat} {C : Array Value} {T' : TypeId} {fr : Nat × Nat} {v : Value} {name : String} {m : Method} {info : TypeInfo} {f : FuncId} {av : Array Value} {fuel : Nat} (hfuel : P.types.size + Made.depth = fuel + 1)
    (hi : P.info? T = some info) (hm : info.methods.find? (·.name == name) = some m) (hp : m.path = #[]) (hf : m.func = some (f, false)) (hu : P.underlying T = some (.pointer E)) (hb : w.heap[g]? = some (.cells C T' fr)) (hv : ldV P E C 0 = some v)
    (hc : (callFunc f (#[v] ++ av)).run P w = .ok (.enter f (#[v] ++ av)) w) : (callMethod (.iface T (.pointer (some ⟨g, 0, none⟩))) name av).run P w = .ok (.enter f (#[v] ++ av)) w := by
  unfold callMethod
  simp only [Sem.run_bind, run_program, Result.andThen_ok, hfuel, method]
  have hti : (typeInfo T).run P w = .ok info w := by simp [typeInfo, hi]
  simp only [hti, Result.andThen_ok, hm, hp, follow, Sem.run_bind, Sem.run_pure, hf]
  have hl := run_ldVar hb hv
  have hr : (receiverAt T (Place.val (.pointer (some ⟨g, 0, none⟩))) false (if (#[] : Array FieldStep).isEmpty = true then some ((name.splitOn ".").getLastD name) else none)).run P w = .ok v w := by
    have hwr : ∀ nm, Builtin.ssaWrapNilChk_ #[T] T #[.pointer (some ⟨g, 0, none⟩), strVal "", strVal nm] = pure (.pointer (some ⟨g, 0, none⟩)) := fun nm => rfl
    have has : asAddr (.pointer (some ⟨g, 0, none⟩)) = pure ⟨g, 0, none⟩ := rfl
    unfold receiverAt
    simp only [Sem.run_bind, run_underlying hu, Result.andThen_ok, Place.get, show (#[] : Array FieldStep).isEmpty = true from rfl, if_true, Sem.run_pure, hwr, has, hl]
  simp only [hr, Result.andThen_ok, hc]
end
end Go.Proofs.Ytaelmkkobjdgbaa

namespace Go.Proofs.Ytaelmkkobjdgbaa
set_option linter.unusedSimpArgs false
set_option linter.unusedVariables false
open Go.RowKit
set_option linter.unusedVariables false

/-! ### contracts that lean on what none of their pieces holds -/
def TrM (I : World → Prop) (P : Program) (f : FuncId) (args : Array Value) (w : World) (Pre : List HA) (R : Value → List HA → Prop) : Prop :=
  ∀ fp, HSt Pre w fp → (∀ w', Upd fp w w' → I w') → Calls P f args w fun e w' => ∃ v Q fp', e = .returned v ∧ R v Q ∧ HSt Q w' fp' ∧ Upd fp w w' ∧ ∀ g ∈ fp', g ∈ fp ∨ w.heap.size ≤ g
section
variable {P : Program} {n : Nat} {ops : Array Oper} {Q : Post} {l : List Oper} {e : Nat → Value} {w0 w w' : World} {o : Oper} {U : List Nat} {As Pre Rest : List HA} {I : World → Prop}
theorem Tr.m {f : FuncId} {args : Array Value} {R : Value → List HA → Prop} (h : Tr P f args w Pre R) : TrM I P f args w Pre R := fun fp hfp _ => h fp hfp
theorem TrM.of {f : FuncId} {args : Array Value} {R : Value → List HA → Prop} (h : ∀ U, SH U w w Pre → (∀ w', Upd U w w' → I w') → Calls P f args w fun e w' => ∃ v Q, e = .returned v ∧ R v Q ∧ SH U w w' Q) : TrM I P f args w Pre R := fun fp hfp hI => by
  refine (h fp (SH.init hfp) hI).mono fun e w' hx => ?_
  obtain ⟨v, Q, rfl, hR, hs⟩ := hx
  obtain ⟨fp', h1, h2⟩ := hs.st
  exact ⟨v, Q, fp', rfl, hR, h1, hs.upd, fun g hg => (h2 g hg).symm⟩
theorem TrM.mono {f : FuncId} {args : Array Value} {R R' : Value → List HA → Prop} (h : TrM I P f args w Pre R) (hr : ∀ v Q, R v Q → R' v Q) : TrM I P f args w Pre R' := fun fp hfp hI => (h fp hfp hI).mono fun e w' hx => by
  obtain ⟨v, Q, fp', rfl, h1, h2⟩ := hx; exact ⟨v, Q, fp', rfl, hr _ _ h1, h2⟩
theorem SH.callM {is : List Nat} {f : FuncId} {args : Array Value} {R : Value → List HA → Prop} (hI : ∀ w', Upd U w0 w' → I w') (h : SH U w0 w As) (hp : pickL is As = some (Pre, Rest)) (ht : TrM I P f args w Pre R) :
    Calls P f args w fun e w' => ∃ v Q, e = .returned v ∧ R v Q ∧ SH U w0 w' (Q ++ Rest) := by
  obtain ⟨fp, h1, h2⟩ := (h.perm (pickL_perm is As Pre Rest hp)).st
  obtain ⟨f1, f2, rfl, h3, h4, h5⟩ := h1.split
  have hcomp : ∀ w', Upd f1 w w' → Upd U w0 w' := fun w' h7 => by
    refine ⟨h7.os.trans h.upd.os, h7.tape.trans h.upd.tape, h7.output.trans h.upd.output, Nat.le_trans h.upd.size h7.size, fun k hk hn => ?_⟩
    rw [h7.block k (Nat.lt_of_lt_of_le hk h.upd.size) fun hm => ?_]
    · exact h.upd.block k hk hn
    · rcases h2 k (List.mem_append_left _ hm) with h9 | h9
      · omega
      · exact hn h9
  refine (ht f1 h3 fun w' hu => hI w' (hcomp w' hu)).mono fun e w' hx => ?_
  obtain ⟨v, Q, fp', rfl, hR, h6, h7, h8⟩ := hx
  refine ⟨v, Q, rfl, hR, hcomp w' h7, fp' ++ f2, h6.app (h4.keep _ _ _ _ fun g hg => h7.block g (h4.live _ _ _ g hg) fun hm => h5 g hm hg) fun g hg hm => ?_, fun g hg => ?_⟩
  · rcases h8 g hg with h9 | h9
    · exact h5 g h9 hm
    · have := h4.live _ _ _ g hm; omega
  · rcases List.mem_append.1 hg with hg | hg
    · rcases h8 g hg with h9 | h9
      · exact h2 g (List.mem_append_left _ h9)
      · exact .inl (Nat.le_trans h.upd.size h9)
    · exact h2 g (List.mem_append_right _ hg)
theorem SL.callHM {f : FuncId} {args : Array Value} {R : Value → List HA → Prop} (hI : ∀ w', Upd U w0 w' → I w') (is : List Nat) (hs : SH U w0 w As) (hg : o.guard = none) (hd : dok n o.dst = true) (hrun : (execOp (evE e) o).run P w = .ok (.enter f args) w)
    (hp : pickL is As = some (Pre, Rest)) (ht : TrM I P f args w Pre R) (h : ∀ v Qs w', R v Qs → SH U w0 w' (Qs ++ Rest) → SL P n ops Q l (dput e o.dst v) w') : SL P n ops Q (o :: l) e w :=
  SL.call hg hd hrun (hs.callM hI hp ht) fun x w' hx => by
    obtain ⟨v, Qs, rfl, hR, hs'⟩ := hx; exact ⟨v, rfl, h v Qs w' hR hs'⟩
end
end Go.Proofs.Ytaelmkkobjdgbaa

namespace Go.Proofs.Ytaelmkkobjdgbaa
set_option linter.unusedSimpArgs false
set_option linter.unusedVariables false
open Go.RowKit
set_option linter.unusedVariables false

section
variable {P : Program} {n : Nat} {l : List Oper} {e : Nat → Value} {w w' : World} {Q : Post}
/-- Operations ahead of a region's tail: each leaves a fact, which all others keep. -/
def StepV (P : Program) (ops : Array Oper) (A : (Nat → Value) → Nat → Value) (F : Nat → Value → World → Prop) (Base : World → Prop) (i : Nat) (o : Oper) : Prop :=
  ∀ (L : Nat → Prop) (ys : Nat → Value) (w : World), Base w → (∀ j, L j → F j (ys j) w) → LAll .any L o.after.toList → ∀ K : Value → World → Prop,
    (∀ v w', Base w' → F i v w' → (∀ j, L j → F j (ys j) w → F j (ys j) w') → K v w') → OpV P ops (A ys) o w K
def StepsV (P : Program) (ops : Array Oper) (A : (Nat → Value) → Nat → Value) (F : Nat → Value → World → Prop) (Base : World → Prop) : Nat → List Oper → Prop
  | _, [] => True
  | i, o :: r => StepV P ops A F Base i o ∧ StepsV P ops A F Base (i + 1) r
theorem StepsV.at {ops : Array Oper} {A : (Nat → Value) → Nat → Value} {F : Nat → Value → World → Prop} {Base : World → Prop} : ∀ {r : List Oper} {i : Nat}, StepsV P ops A F Base i r → ∀ k o, r[k]? = some o → StepV P ops A F Base (i + k) o
  | [], _, _, _, _, h => by simp at h
  | p :: r, i, hs, 0, o, h => by
    simp only [List.getElem?_cons_zero, Option.some.injEq] at h
    subst h
    exact hs.1
  | p :: r, i, hs, k + 1, o, h => by
    have := StepsV.at hs.2 k o (by simpa using h)
    rw [show i + 1 + k = i + (k + 1) by omega] at this
    exact this
/-- .. and what stands ahead of it, in whatever order. -/
theorem wpAny_headV {m : Nat} (hb : tailB l m = true) (hml : m ≤ l.length) (F : Nat → Value → World → Prop) (Base : World → Prop) (hdst : apartD (l.take m) = true) (hok : ((l.take m).all fun o => dok n o.dst) = true) (hf : Fr n e)
    (hstep : StepsV P l.toArray (fun ys => fillE (l.take m) 0 ys e) F Base 0 (l.take m))
    (htail : ∀ ys w, Base w → (∀ j, j < m → F j (ys j) w) → SL P n l.toArray Q (l.drop m) (fillE (l.take m) 0 ys e) w) :
    ∀ (fuel : Nat) (listed : Array Bool) (ys : Nat → Value) (w : World), listed.size = l.length → listed.toList.count false ≤ fuel → Base w → (∀ j, listed[j]? = some true → j < m ∧ F j (ys j) w) →
      closedL l (fun j => listed[j]? = some true) → wpAny P .any l.toArray (onE n Q) fuel listed (frm n (fillE (l.take m) 0 ys e)) w := by
  intro fuel
  induction fuel with
  | zero =>
    intro listed ys w hsz hc hB hD hcl
    have hall : ∀ i, i < l.length → listed[i]? = some true := by
      intro i hi
      have h0 : listed.toList.count false = 0 := by omega
      rw [List.count_eq_zero] at h0
      have hlt : i < listed.size := by omega
      rcases hbb : listed[i] with _ | _
      · exact absurd (by rw [← hbb]; exact Array.getElem_mem_toList _) h0
      · simp [hlt, hbb]
    have hm : m = l.length := by
      rcases Nat.lt_or_ge m l.length with h1 | h1
      · have := (hD m (hall m h1)).1; omega
      · omega
    exact wpAny_tail hb 0 m listed _ w (Nat.le_refl _) hml hsz (fun j hj => ⟨fun _ => by omega, fun _ => hall j hj⟩) (by omega) (htail ys w hB fun j hj => (hD j (hall j (by omega))).2) (Fr.fill _ _ _ _ hok hf)
  | succ fuel ih =>
    intro listed ys w hsz hc hB hD hcl
    by_cases hpre : ∀ j, j < m → listed[j]? = some true
    · refine wpAny_tail hb (fuel + 1) m listed _ w (Nat.le_refl _) hml hsz (fun j hj => ⟨fun h => (hD j h).1, fun h => hpre j h⟩) ?_ (htail ys w hB fun j hj => (hD j (hpre j hj)).2) (Fr.fill _ _ _ _ hok hf)
      have hcnt : l.length - m ≤ listed.toList.count false := by
        have h1 : (listed.toList.drop m).count false = (listed.toList.drop m).length := by
          rw [List.count_eq_length]
          intro b hbm
          obtain ⟨k, hk, hkb⟩ := List.getElem_of_mem hbm
          rw [List.getElem_drop] at hkb
          have hk' : m + k < listed.toList.length := by simp at hk; simp; omega
          cases b with
          | false => rfl
          | true =>
            have : listed[m + k]? = some true := by
              rw [← Array.getElem?_toList, List.getElem?_eq_getElem hk', hkb]
            have := (hD _ this).1
            omega
        have h2 := (List.drop_sublist m listed.toList).count_le false
        rw [h1] at h2
        simpa [hsz] using h2
      omega
    · refine ⟨fun hr => ?_, fun i hi => ?_⟩
      · exfalso
        apply hpre
        intro j
        induction j using Nat.strongRecOn with
        | ind j ihj =>
          intro hj
          refine Classical.byContradiction fun hn => ?_
          have : j ∈ Region.ready .any l.toArray listed := (ready_iff hsz j).2 ⟨by omega, hn, fun x hx => by
            have := tailB_lt hb (i := j) (by omega) x hx
            exact ihj x this (by omega)⟩
          rw [hr] at this; cases this
      · obtain ⟨hil, hni, hp⟩ := (ready_iff hsz i).1 hi
        have him : i < m := by
          rcases Nat.lt_or_ge i m with h1 | h1
          · exact h1
          · exact absurd (fun j hj => cov_sound hcl i _ hp (tailB_cov hb hil h1) j (by omega)) hpre
        have hli : (l.take m)[i]? = some l[i] := by rw [List.getElem?_take, if_pos him]; simp [hil]
        refine wpOp_step (o := l[i]) (by simp [hil]) fun K hK => ?_
        have hst := StepsV.at hstep i l[i] hli
        rw [Nat.zero_add] at hst
        refine OpV.wanted (Fr.fill _ _ _ _ hok hf) ?_
        refine hst (fun j => listed[j]? = some true) ys w hB (fun j hj => (hD j hj).2) (LAll.of fun x hx hbx => ?_) _ fun v w' hB' hFi hkeep => ?_
        · refine hp x.on ?_
          unfold preds
          rw [List.getElem?_eq_getElem hil]
          simp only [Option.map_some, Option.getD_some, List.mem_map, List.mem_filter]
          exact ⟨x, ⟨hx, hbx⟩, rfl⟩
        · have e1 : (frm n (fillE (l.take m) 0 ys e)).put l[i].dst v = frm n (fillE (l.take m) 0 (fun j => if j = i then v else ys j) e) := by
            rw [← fillA_frm, ← fillA_frm, fillA_set (l.take m) 0 i l[i] ys (frm n e) v hdst hli, Nat.zero_add]
          rw [e1]
          have hlt : i < listed.size := by omega
          have hfi : listed[i] = false := by
            rcases hbb : listed[i] with _ | _
            · rfl
            · exact absurd (by simp [hlt, hbb]) hni
          have hset : ∀ j, (listed.setIfInBounds i true)[j]? = some true ↔ (j = i ∨ listed[j]? = some true) := by
            intro j
            by_cases ej : j = i
            · subst ej; simp [hlt]
            · rw [Array.getElem?_setIfInBounds_ne (by omega)]; simp [ej]
          refine hK _ _ (ih _ _ _ (by simpa using hsz) ?_ hB' (fun j hj => ?_) (fun j hj x hx => ?_))
          · have : (listed.setIfInBounds i true).toList.count false + 1 = listed.toList.count false := by
              rw [Array.toList_setIfInBounds]
              have h1 : i < listed.toList.length := by simpa using hlt
              rw [List.count_set h1]
              have h2 : listed.toList[i] = false := by simpa using hfi
              have h3 : 0 < listed.toList.count false := List.count_pos_iff.2 (by rw [← h2]; exact List.getElem_mem h1)
              rw [h2, if_pos (show (false == false) = true from rfl), if_neg (by decide)]
              omega
            omega
          · rcases (hset j).1 hj with rfl | hj'
            · exact ⟨him, by simpa using hFi⟩
            · have hji : j ≠ i := fun e => hni (e ▸ hj')
              refine ⟨(hD j hj').1, ?_⟩
              simp only [hji, if_false]
              exact hkeep j hj' (hD j hj').2
          · rcases (hset j).1 hj with rfl | hj'
            · exact (hset x).2 (.inr (hp x hx))
            · exact (hset x).2 (.inr (hcl j hj' x hx))
/-- THE RULE for a region that draws its order: facts ahead of the tail, the tail one behind the other. -/
theorem CW.drawV {id : Nat} (m : Nat) (F : Nat → Value → World → Prop) (Base : World → Prop) (hm : P.follows .mixedOrders = true) (hb : tailB l m = true) (hml : Nat.ble m l.length = true) (hdst : apartD (l.take m) = true) (hok : ((l.take m).all fun o => dok n o.dst) = true)
    (hB : Base w.drew) (hstep : StepsV P l.toArray (fun ys => fillE (l.take m) 0 ys e) F Base 0 (l.take m))
    (htail : ∀ ys w, Base w → (∀ j, j < m → F j (ys j) w) → SL P n l.toArray Q (l.drop m) (fillE (l.take m) 0 ys e) w) : CW P n (.region id l.toArray true) Q e w := fun hf => by
  refine wp_region_any hm ?_
  obtain ⟨ys, h⟩ := fillA_old (l.take m) (frm n e) 0
  have he : ∀ i : Nat, ¬ ((Array.replicate l.toArray.size false)[i]? = some true) := by
    intro i hi
    rw [Array.getElem?_replicate] at hi
    split at hi <;> simp at hi
  have := wpAny_headV (P := P) (Q := Q) hb (by simpa using hml) F Base hdst hok hf hstep htail l.toArray.size (Array.replicate l.toArray.size false) ys w.drew (by simp) (by simp) hB (fun j hj => absurd hj (he j)) (fun j hj => absurd hj (he j))
  rw [fillA_frm] at h
  rw [h] at this
  exact this
end
end Go.Proofs.Ytaelmkkobjdgbaa

namespace Go.Proofs.Ytaelmkkobjdgbaa
set_option linter.unusedSimpArgs false
set_option linter.unusedVariables false
open Go.RowKit
set_option linter.unusedVariables false

/-- What is appended to a row without room: a row of new memory. -/
def AppB (ws : World) (T m : Nat) (news : List Value) (v : Value) (W : World) : Prop := ∃ a c, v = .slice a m c ∧ (rowH T 1 a m c news).at_ W (Value.slice a m c).ownBlock.toList ∧ ∀ g ∈ (Value.slice a m c).ownBlock.toList, ws.heap.size ≤ g
theorem AppB.gr {ws : World} {T m : Nat} {news : List Value} {v : Value} {W W' : World} (hg : Gr W W') (h : AppB ws T m news v W) : AppB ws T m news v W' := by
  obtain ⟨a, c, h1, h2, h3⟩ := h
  exact ⟨a, c, h1, (rowH T 1 a m c news).keep _ _ _ h2 fun g hm => hg.block g ((rowH T 1 a m c news).live _ _ h2 g hm), h3⟩
theorem run_app0 {P : Program} {w : World} {t tx ty el : TypeId} {z : Value} {bytes : Nat} (ht : P.underlying t = some (.slice el)) (hinfo : (P.info? el).map (fun i => (i.zero, i.size, i.bytes)) = some (some z, 1, bytes)) (hzs : z.cells.size = 1) (hby : Nat.ble bytes 1000 = true)
    {g0 : Nat} (hb : w.heap[g0]? = some (.cells #[] el (0, 0))) {yv : Value} {m : Nat} {news : List Value} (hs : Src P 1 tx yv m news w) (hm : m ≤ 100000000) :
    ∃ a c w', (Builtin.append_ #[t, tx] ty #[.slice (some ⟨g0, 0, none⟩) 0 0, yv]).run P w = .ok (.slice a m c) w' ∧ Gr w w' ∧ (rowH el 1 a m c news).at_ w' (Value.slice a m c).ownBlock.toList ∧ ∀ g ∈ (Value.slice a m c).ownBlock.toList, w.heap.size ≤ g ∨ g = g0 := by
  obtain ⟨i, hi, hz, hsz, hby'⟩ := info_parts hinfo
  have hlen : news.length = m := by have := hs.newsLen; omega
  rcases Nat.eq_zero_or_pos m with rfl | h0
  · have hn : news = [] := List.eq_nil_of_length_eq_zero hlen
    subst hn
    refine ⟨_, _, w, run_append_nothing w t tx ty el i ht hi _ 0 0 (Nat.le_refl _) yv (by rw [hsz]; exact hs), Gr.refl w, ⟨⟨rfl, .inr ⟨g0, 0, #[], rfl, Nat.zero_le _, hb, Nat.le_refl _, Nat.zero_le _, rfl, rfl⟩⟩, rfl⟩, fun g hg => ?_⟩
    simp [Value.ownBlock] at hg
    exact .inr hg
  · have hb1 : bytes ≤ 1000 := by simpa using hby
    have hmb : m * bytes ≤ m * 1000 := Nat.mul_le_mul_left _ hb1
    have hr := run_append_grow_src (P := P) (w := w) t tx ty el i z ht hi hz (some ⟨g0, 0, none⟩) 0 0 [] (run_firstCells_some w.drew i.size 0 _ 0 0 [] (by simp) (by simp)) yv m news (by rw [hsz]; exact hs) (by omega) (by omega) (growslice_fits (by omega) (by rw [hby', Nat.zero_add]; omega))
    simp only [Nat.zero_add] at hr
    have hge := grownCap_ge w m 0 el
    have hcm : grownCap w m 0 el ≤ maxLen := grownCap_le_maxLen w m 0 el (by unfold maxLen; omega)
    generalize grownCap w m 0 el = cap at hr hge hcm
    refine ⟨_, cap, _, hr, ((Gr.refl w).drew).alloc _, ⟨⟨by rw [Nat.mul_one]; exact hlen, .inr ⟨w.heap.size, cap, _, rfl, Nat.zero_le _, by exact heap_alloc_new w.drew _, hge, hcm, ?_, ?_⟩⟩, rfl⟩, fun g hg => ?_⟩
    · have : (Builtin.zeroCells z.cells (cap - m)).size = cap - m := by simp [Builtin.zeroCells, hzs]
      simp [this, hlen]; omega
    · simp [hlen]
    · simp [Value.ownBlock] at hg
      exact .inl (by omega)
end Go.Proofs.Ytaelmkkobjdgbaa
