/-
  A calculus of my own: frames as functions of their slots.
  The calculus: memory of the call's own as a list of blocks.
  The calculus: regions that draw their order.
  The calculus: == of structs and arrays.
-/
import Derived.DeepKeys
import Derived.LoopN
import Derived.Test.YtaelmkkobjdgbaaZPw
import Derived.Test.YtaelmkkobjdgbaaZOrd2
namespace Go.Proofs.Ytaelmkkobjdgbaa
set_option linter.unusedSimpArgs false
set_option linter.unusedVariables false
open Go.RowKit
set_option linter.unusedVariables false

/-- A frame of n slots. -/
def frm (n : Nat) (e : Nat → Value) : Act := { tmps := ((List.range n).map e).toArray, defers := [] }
def put1 (e : Nat → Value) (t : Nat) (v : Value) : Nat → Value := fun k => bif Nat.beq k t then v else e k
theorem beq_ne {k t : Nat} (h : k ≠ t) : Nat.beq k t = false := by
  cases hb : Nat.beq k t with
  | false => rfl
  | true => exact absurd (Nat.eq_of_beq_eq_true hb) h
theorem beq_eq (k : Nat) : Nat.beq k k = true := Nat.beq_refl k
/-- Beyond the frame there is nothing. -/
def Fr (n : Nat) (e : Nat → Value) : Prop := ∀ t, n ≤ t → e t = undef
def evE (e : Nat → Value) : Operand → Value
  | .tmp t => e t
  | .const v => v
  | .global g => .pointer (some ⟨g, 0, none⟩)
  | .func f => .func (.func f) #[] #[]
theorem Fr.put {n : Nat} {e : Nat → Value} (h : Fr n e) {t : Nat} (ht : t < n) (v : Value) : Fr n (put1 e t v) := fun k hk => by
  unfold put1; rw [beq_ne (by omega)]; exact h k hk
theorem frm_put {n : Nat} {e : Nat → Value} {t : Nat} (v : Value) : (frm n e).put (some t) v = frm n (put1 e t v) := by
  unfold frm Act.put put1
  simp only [Act.mk.injEq, and_true]
  rw [List.setIfInBounds_toArray]
  congr 1
  refine List.ext_getElem (by simp) fun i h1 h2 => ?_
  simp only [List.getElem_set, List.getElem_map, List.getElem_range]
  by_cases hi : t = i
  · subst hi; rw [if_pos rfl, beq_eq]; rfl
  · rw [if_neg hi, beq_ne (fun e => hi e.symm)]; rfl
theorem frm_eval {n : Nat} {e : Nat → Value} (h : Fr n e) : (frm n e).eval = evE e := by
  funext x
  cases x with
  | tmp t =>
    unfold frm Act.eval evE
    by_cases ht : t < n
    · simp [Array.getD, ht]
    · have h1 := h t (Nat.le_of_not_lt ht)
      simp [Array.getD, ht, h1]
  | const v => rfl
  | global g => rfl
  | func f => rfl
def dput (e : Nat → Value) : Option Tmp → Value → Nat → Value
  | some t, v => put1 e t v
  | none, _ => e
def dok (n : Nat) : Option Tmp → Bool
  | some t => Nat.blt t n
  | none => true
theorem frm_dput {n : Nat} {e : Nat → Value} (d : Option Tmp) (v : Value) : (frm n e).put d v = frm n (dput e d v) := by
  cases d with
  | none => rfl
  | some t => exact frm_put v
theorem Fr.dput {n : Nat} {e : Nat → Value} (h : Fr n e) {d : Option Tmp} (hd : dok n d = true) (v : Value) : Fr n (dput e d v) := by
  cases d with
  | none => exact h
  | some t => exact h.put (by simpa [dok, Nat.blt_eq] using hd) v

/-! ### Operations in their order -/
abbrev Post := Exit → (Nat → Value) → World → Prop
/-- What an end says of an act. -/
def onE (n : Nat) (Q : Post) : Exit → Act → World → Prop := fun x a w => ∃ e, a = frm n e ∧ Fr n e ∧ Q x e w
def CW (P : Program) (n : Nat) (c : Code) (Q : Post) (e : Nat → Value) (w : World) : Prop := Fr n e → c.wp P (onE n Q) (frm n e) w
section
variable {P : Program} {n : Nat} {ops : Array Oper} {Q : Post} {l : List Oper} {e : Nat → Value} {w : World} {o : Oper}
/-- What a call leaves. -/
def Left (R : Ending → World → Prop) (S : Value → World → Prop) : Prop := ∀ x w', R x w' → ∃ v, x = .returned v ∧ S v w'
/-- One operation: a value, nothing, or a call. -/
inductive OpE (P : Program) (e : Nat → Value) (o : Oper) (w : World) (K : Value → World → Prop) : Prop
  | val (v : Value) (w' : World) (hrun : (execOp (evE e) o).run P w = .ok (.value v) w') (h : K v w') : OpE P e o w K
  | skip (w' : World) (hrun : (execOp (evE e) o).run P w = .ok .skip w') (h : K undef w') : OpE P e o w K
  | call (f : FuncId) (args : Array Value) (w1 : World) (R : Ending → World → Prop) (hrun : (execOp (evE e) o).run P w = .ok (.enter f args) w1) (hc : Calls P f args w1 R) (h : Left R K) : OpE P e o w K
theorem OpE.mono {K K' : Value → World → Prop} (h : OpE P e o w K) (hk : ∀ v w', K v w' → K' v w') : OpE P e o w K' := by
  cases h with
  | val v w' hrun h => exact .val v w' hrun (hk _ _ h)
  | skip w' hrun h => exact .skip w' hrun (hk _ _ h)
  | call f args w1 R hrun hc h => exact .call f args w1 R hrun hc fun x w' hx => by obtain ⟨v, h1, h2⟩ := h x w' hx; exact ⟨v, h1, hk _ _ h2⟩
theorem OpE.wp {K : Act → World → Prop} {X : Exit → Act → World → Prop} (hf : Fr n e) (h : OpE P e o w fun v w' => K ((frm n e).put o.dst v) w') : o.wp P (frm n e) w K X := by
  unfold Oper.wp
  rw [frm_eval hf]
  cases h with
  | val v w' hrun h => rw [hrun, Oper.upon_value]; exact h
  | skip w' hrun h => rw [hrun, Oper.upon_skip]; exact h
  | call f args w1 R hrun hc h =>
    rw [hrun, Oper.upon_enter]
    refine hc.mono fun x w' hx => ?_
    obtain ⟨v, rfl, hv⟩ := h x w' hx
    exact hv
/-- .. or one that its guard lets stand, or not. -/
def OpG (P : Program) (ops : Array Oper) (e : Nat → Value) (o : Oper) (w : World) (K : Value → World → Prop) : Prop :=
  match o.guard with
  | none => OpE P e o w K
  | some (j, b) => ∃ t c, (ops[j]?).bind (·.dst) = some t ∧ e t = .bool c ∧ ((c = b ∧ OpE P e o w K) ∨ ((c == b) = false ∧ K undef w))
/-- .. or one whose guard was itself left out. -/
def OpV (P : Program) (ops : Array Oper) (e : Nat → Value) (o : Oper) (w : World) (K : Value → World → Prop) : Prop :=
  OpG P ops e o w K ∨ ∃ j b t, o.guard = some (j, b) ∧ (ops[j]?).bind (·.dst) = some t ∧ e t = undef ∧ K undef w
/-- Operations in their order. -/
def SL (P : Program) (n : Nat) (ops : Array Oper) (Q : Post) : List Oper → (Nat → Value) → World → Prop
  | [], e, w => Q .normal e w
  | o :: l, e, w => dok n o.dst = true ∧ OpV P ops e o w fun v w' => SL P n ops Q l (dput e o.dst v) w'
/-- The guard's operation has said what is wanted, or not. -/
theorem yielded_frm (hf : Fr n e) {j t : Nat} {b : Bool} (hj : (ops[j]?).bind (·.dst) = some t) (hb : e t = .bool b) : yielded ops (frm n e).tmps j = some b := by
  unfold yielded
  have ht : t < n := by
    by_cases h : t < n
    · exact h
    · exfalso; have := hf t (by omega); rw [hb] at this; cases this
  rw [hj]
  simp [frm, ht, hb]
theorem OpG.wanted {K : Act → World → Prop} {X : Exit → Act → World → Prop} (hf : Fr n e) (h : OpG P ops e o w fun v w' => K ((frm n e).put o.dst v) w') :
    if Region.wanted o (yielded ops (frm n e).tmps) = true then o.wp P (frm n e) w K X else K ((frm n e).put o.dst undef) w := by
  unfold OpG at h
  cases hg : o.guard with
  | none =>
    rw [hg] at h
    rw [if_pos (by simp [Region.wanted, hg])]
    exact OpE.wp hf h
  | some gd =>
    obtain ⟨j, b⟩ := gd
    rw [hg] at h
    obtain ⟨t, c, ht, hc, h⟩ := h
    have hy := yielded_frm hf ht hc
    rcases h with ⟨rfl, h⟩ | ⟨hbc, h⟩
    · rw [if_pos (by simp [Region.wanted, hg, hy])]
      exact OpE.wp hf h
    · rw [if_neg (by rw [Region.wanted, hg]; simp [hy]; simpa using hbc)]
      exact h
theorem yielded_und (hf : Fr n e) {j t : Nat} (hj : (ops[j]?).bind (·.dst) = some t) (hb : e t = undef) : yielded ops (frm n e).tmps j = none := by
  unfold yielded
  rw [hj]
  by_cases ht : t < n <;> simp [frm, ht, hb, undef]
theorem OpV.wanted {K : Act → World → Prop} {X : Exit → Act → World → Prop} (hf : Fr n e) (h : OpV P ops e o w fun v w' => K ((frm n e).put o.dst v) w') :
    if Region.wanted o (yielded ops (frm n e).tmps) = true then o.wp P (frm n e) w K X else K ((frm n e).put o.dst undef) w := by
  rcases h with h | ⟨j, b, t, hg, hj, hu, h⟩
  · exact OpG.wanted hf h
  · have hy := yielded_und hf hj hu
    rw [if_neg (by rw [Region.wanted, hg]; simp [hy])]
    exact h
theorem OpV.mono {K K' : Value → World → Prop} (h : OpV P ops e o w K) (hK : ∀ v w', K v w' → K' v w') : OpV P ops e o w K' := by
  rcases h with h | ⟨j, b, t, hg, hj, hu, h⟩
  · refine .inl ?_
    unfold OpG at h ⊢
    cases hg : o.guard with
    | none => rw [hg] at h; exact h.mono hK
    | some gd =>
      rw [hg] at h
      obtain ⟨t, c, ht, hc, h⟩ := h
      refine ⟨t, c, ht, hc, ?_⟩
      rcases h with ⟨h1, h⟩ | ⟨h1, h⟩
      · exact .inl ⟨h1, h.mono hK⟩
      · exact .inr ⟨h1, hK _ _ h⟩
  · exact .inr ⟨j, b, t, hg, hj, hu, hK _ _ h⟩
theorem SL.wpList : ∀ (l : List Oper) (e : Nat → Value) (w : World), SL P n ops Q l e w → Fr n e → Go.wpList P ops (onE n Q) l (frm n e) w
  | [], e, w, h, hf => ⟨e, rfl, hf, h⟩
  | o :: l, e, w, ⟨hd, h⟩, hf => wpList_step fun K hK => by
    have := OpV.wanted (n := n) (K := K) (X := onE n Q) hf (o := o) (P := P) (ops := ops) (w := w) (h.mono fun v w' hv => by rw [frm_dput]; exact hK _ _ (SL.wpList l _ _ hv (hf.dput hd v)))
    exact this
theorem SL.nil (h : Q .normal e w) : SL P n ops Q [] e w := h
theorem SL.op (hg : o.guard = none) (hd : dok n o.dst = true) (h : OpE P e o w fun v w' => SL P n ops Q l (dput e o.dst v) w') : SL P n ops Q (o :: l) e w := ⟨hd, .inl (by unfold OpG; rw [hg]; exact h)⟩
theorem SL.val {v : Value} {w' : World} (hg : o.guard = none) (hd : dok n o.dst = true) (hrun : (execOp (evE e) o).run P w = .ok (.value v) w') (h : SL P n ops Q l (dput e o.dst v) w') : SL P n ops Q (o :: l) e w := .op hg hd (.val _ _ hrun h)
/-- .. a value, of an operation that leaves the world. -/
theorem SL.v (v : Value) (h : SL P n ops Q l (dput e o.dst v) w) (hg : o.guard = none := by rfl) (hd : dok n o.dst = true := by rfl) (hrun : (execOp (evE e) o).run P w = .ok (.value v) w := by kernel_rfl) : SL P n ops Q (o :: l) e w := SL.val hg hd hrun h
theorem SL.skip {w' : World} (hg : o.guard = none) (hd : o.dst = none) (hrun : (execOp (evE e) o).run P w = .ok .skip w') (h : SL P n ops Q l e w') : SL P n ops Q (o :: l) e w := .op hg (by rw [hd]; rfl) (.skip _ hrun (by rw [hd]; exact h))
theorem SL.call {f : FuncId} {args : Array Value} {R : Ending → World → Prop} {w1 : World} (hg : o.guard = none) (hd : dok n o.dst = true) (hrun : (execOp (evE e) o).run P w = .ok (.enter f args) w1) (hc : Calls P f args w1 R)
    (h : Left R fun v w' => SL P n ops Q l (dput e o.dst v) w') : SL P n ops Q (o :: l) e w := .op hg hd (.call f args w1 R hrun hc h)
theorem SL.on {j t : Nat} {b : Bool} (hg : o.guard = some (j, b)) (hj : (ops[j]?).bind (·.dst) = some t) (hb : e t = .bool b) (h : SL P n ops Q ({ o with guard := none } :: l) e w) : SL P n ops Q (o :: l) e w := by
  refine ⟨h.1, .inl ?_⟩
  unfold OpG
  rw [hg]
  refine ⟨t, b, hj, hb, .inl ⟨rfl, ?_⟩⟩
  have := h.2
  rcases this with this | ⟨_, _, _, h0, _⟩
  rotate_left
  · cases h0
  unfold OpG at this
  cases this with
  | val v w' hrun h => exact .val v w' hrun h
  | skip w' hrun h => exact .skip w' hrun h
  | call f args w1 R hrun hc h => exact .call f args w1 R hrun hc h
theorem SL.off {j t : Nat} {b c : Bool} (hg : o.guard = some (j, c)) (hj : (ops[j]?).bind (·.dst) = some t) (hb : e t = .bool b) (hbc : (b == c) = false) (hd : dok n o.dst = true) (h : SL P n ops Q l (dput e o.dst undef) w) : SL P n ops Q (o :: l) e w := by
  refine ⟨hd, .inl ?_⟩
  unfold OpG
  rw [hg]
  exact ⟨t, b, hj, hb, .inr ⟨hbc, h⟩⟩
/-- .. its guard's operation was left out. -/
theorem SL.un {j t : Nat} {c : Bool} (h : SL P n ops Q l (dput e o.dst undef) w) (hg : o.guard = some (j, c) := by rfl) (hj : (ops[j]?).bind (·.dst) = some t := by rfl) (hb : e t = undef := by kernel_rfl) (hd : dok n o.dst = true := by rfl) : SL P n ops Q (o :: l) e w := ⟨hd, .inr ⟨j, c, t, hg, hj, hb, h⟩⟩

theorem SL.no {j t : Nat} {c : Bool} (b : Bool) (h : SL P n ops Q l (dput e o.dst undef) w) (hg : o.guard = some (j, c) := by rfl) (hj : (ops[j]?).bind (·.dst) = some t := by rfl) (hb : e t = .bool b := by kernel_rfl) (hbc : (b == c) = false := by rfl) (hd : dok n o.dst = true := by rfl) : SL P n ops Q (o :: l) e w := SL.off hg hj hb hbc hd h
theorem SL.go {j t : Nat} {b : Bool} (h : SL P n ops Q ({ o with guard := none } :: l) e w) (hg : o.guard = some (j, b) := by rfl) (hj : (ops[j]?).bind (·.dst) = some t := by rfl) (hb : e t = .bool b := by kernel_rfl) : SL P n ops Q (o :: l) e w := SL.on hg hj hb h

/-! ### Code -/
def PThen (next : (Nat → Value) → World → Prop) (Q : Post) : Post
  | .normal, e, w => next e w
  | x, e, w => Q x e w
theorem onE_mono {Q Q' : Post} (h : ∀ x e w, Q x e w → Q' x e w) {x : Exit} {a : Act} {w : World} (hq : onE n Q x a w) : onE n Q' x a w := by
  obtain ⟨e, ha, hf, hq⟩ := hq; exact ⟨e, ha, hf, h _ _ _ hq⟩
theorem CW.seq {x y : Code} (h : CW P n x (PThen (fun e w => CW P n y Q e w) Q) e w) : CW P n (.seq x y) Q e w := fun hf => by
  refine wp_seq (Code.wp_mono (fun ex a w' hq => ?_) (h hf))
  obtain ⟨e', rfl, hf', hq⟩ := hq
  cases ex with
  | normal => exact hq hf'
  | _ => exact ⟨e', rfl, hf', hq⟩
theorem CW.region {id : Nat} {l : List Oper} (h : SL P n l.toArray Q l e w) : CW P n (.region id l.toArray false) Q e w := fun hf => wp_region_lit (SL.wpList l e w h hf)
theorem CW.skip (h : Q .normal e w) : CW P n .skip Q e w := fun hf => wp_skip ⟨e, rfl, hf, h⟩
theorem CW.exit {id : Nat} (h : Q (.exit id) e w) : CW P n (.exit id) Q e w := fun hf => wp_exit ⟨e, rfl, hf, h⟩
theorem CW.ret (h : Q .ret e w) : CW P n .ret Q e w := fun hf => wp_ret ⟨e, rfl, hf, h⟩
theorem CW.cond {c : Operand} {x y : Code} {b : Bool} (hc : evE e c = .bool b) (h : CW P n (bif b then x else y) Q e w) : CW P n (.cond c x y) Q e w := fun hf => by
  refine wp_cond (t := b) (by rw [frm_eval hf]; exact hc) ?_
  have := h hf
  cases b <;> exact this
theorem CW.cond_true {c : Operand} {x y : Code} (hc : evE e c = .bool true) (h : CW P n x Q e w) : CW P n (.cond c x y) Q e w := CW.cond hc h
theorem CW.cond_false {c : Operand} {x y : Code} (hc : evE e c = .bool false) (h : CW P n y Q e w) : CW P n (.cond c x y) Q e w := CW.cond hc h
def PBlock (id : Nat) (Q : Post) : Post
  | .exit id', e, w => if id' = id then Q .normal e w else Q (.exit id') e w
  | x, e, w => Q x e w
theorem CW.block {id : Nat} {c : Code} (h : CW P n c (PBlock id Q) e w) : CW P n (.block id c) Q e w := fun hf => by
  refine wp_block (Code.wp_mono (fun ex a w' hq => ?_) (h hf))
  obtain ⟨e', rfl, hf', hq⟩ := hq
  cases ex with
  | exit id' =>
    unfold PBlock at hq
    unfold Exit.inBlock
    simp only at hq ⊢
    split at hq
    · rename_i h1; rw [if_pos h1]; exact ⟨e', rfl, hf', hq⟩
    · rename_i h1; rw [if_neg h1]; exact ⟨e', rfl, hf', hq⟩
  | _ => exact ⟨e', rfl, hf', hq⟩
theorem PBlock.here {id : Nat} (h : Q .normal e w) : PBlock id Q (.exit id) e w := by
  unfold PBlock; simp only [if_true]; exact h
theorem PThen.ret {next : (Nat → Value) → World → Prop} (h : Q .ret e w) : PThen next Q .ret e w := h
theorem PThen.exit {next : (Nat → Value) → World → Prop} {id : Nat} (h : Q (.exit id) e w) : PThen next Q (.exit id) e w := h
theorem PBlock.ret {id : Nat} (h : Q .ret e w) : PBlock id Q .ret e w := h
theorem PBlock.normal {id : Nat} (h : Q .normal e w) : PBlock id Q .normal e w := h
theorem PBlock.out {id i : Nat} (hi : Nat.beq i id = false) (h : Q (.exit i) e w) : PBlock id Q (.exit i) e w := by
  unfold PBlock
  have : ¬ i = id := fun e => by rw [e, beq_eq] at hi; cases hi
  simp only [this, if_false]; exact h
theorem CW.mono {c : Code} {Q' : Post} (h : CW P n c Q e w) (hq : ∀ x e w, Q x e w → Q' x e w) : CW P n c Q' e w := fun hf => Code.wp_mono (fun _ _ _ => onE_mono hq) (h hf)
theorem put_self {e : Nat → Value} {t : Nat} {v : Value} (h : e t = v) : e = put1 e t v := by
  funext k
  unfold put1
  by_cases hk : k = t
  · subst hk; rw [beq_eq]; exact h
  · rw [beq_ne hk]; rfl
/-- A loop by a relation and a measure. -/
theorem CW.loop {c : Code} (I : (Nat → Value) → World → Prop) (μ : (Nat → Value) → World → Nat) (h0 : I e w)
    (round : ∀ e w, I e w → CW P n c (PThen (fun e' w' => I e' w' ∧ μ e' w' < μ e w) Q) e w) : CW P n (.loop c) Q e w := fun hf => by
  refine wp_loop (fun a w => ∃ e, a = frm n e ∧ Fr n e ∧ I e w) (fun a w => by classical exact if h : ∃ e, a = frm n e ∧ Fr n e then μ h.choose w else 0) ⟨e, rfl, hf, h0⟩ ?_
  rintro a w ⟨e, rfl, hf, hI⟩
  have hinj : ∀ e1 e2, frm n e1 = frm n e2 → Fr n e1 → Fr n e2 → e1 = e2 := by
    intro e1 e2 h f1 f2
    funext t
    have h1 := congrFun (frm_eval f1) (.tmp t)
    have h2 := congrFun (frm_eval f2) (.tmp t)
    rw [h] at h1
    exact h1.symm.trans h2
  have hch : ∀ e', Fr n e' → ∀ h : (∃ e2, frm n e' = frm n e2 ∧ Fr n e2), h.choose = e' := fun e' f' h => (hinj _ _ h.choose_spec.1 f' h.choose_spec.2).symm
  refine Code.wp_mono (fun ex a w' hq => ?_) (round e w hI hf)
  obtain ⟨e', rfl, hf', hq⟩ := hq
  cases ex with
  | normal =>
    refine ⟨⟨e', rfl, hf', hq.1⟩, ?_⟩
    have h1 : ∃ e2, frm n e' = frm n e2 ∧ Fr n e2 := ⟨e', rfl, hf'⟩
    have h2 : ∃ e2, frm n e = frm n e2 ∧ Fr n e2 := ⟨e, rfl, hf⟩
    rw [dif_pos h1, dif_pos h2, hch e' hf' h1, hch e hf h2]
    exact hq.2
  | _ => exact ⟨e', rfl, hf', hq⟩
/-- A loop, unrolled: at most so many rounds. -/
def CR (P : Program) (n : Nat) (c : Code) (Q : Post) : Nat → (Nat → Value) → World → Prop
  | 0, _, _ => False
  | k + 1, e, w => CW P n c (PThen (fun e w => CR P n c Q k e w) Q) e w
theorem CR.rounds {c : Code} : ∀ (k : Nat) (e : Nat → Value) (w : World), CR P n c Q k e w → Fr n e → Code.rounds P c (onE n Q) k (frm n e) w
  | 0, _, _, h, _ => h.elim
  | k + 1, e, w, h, hf => by
    rw [rounds_succ]
    refine Code.wp_mono (fun ex a w' hq => ?_) (h hf)
    obtain ⟨e', rfl, hf', hq⟩ := hq
    cases ex with
    | normal => exact CR.rounds k e' w' hq hf'
    | _ => exact ⟨e', rfl, hf', hq⟩
theorem CW.loopN {c : Code} (k : Nat) (h : CR P n c Q k e w) : CW P n (.loop c) Q e w := fun hf => wp_loop_rounds k (CR.rounds k e w h hf)
/-- What is known where a function ends. -/
def PRet (P : Program) (n : Nat) (fn : Func) (R : Ending → World → Prop) : Post
  | .normal, e, w => ∃ v, (results fn (frm n e).tmps).run P w = .ok v w ∧ R (.returned v) w
  | .ret, e, w => ∃ v, (results fn (frm n e).tmps).run P w = .ok v w ∧ R (.returned v) w
  | _, _, _ => False
/-- A function, entered. -/
def envA (args : List Value) : Nat → Value := fun t => args.getD t undef
theorem calls_sx {f : FuncId} {fn : Func} {c : Code} {args : List Value} {w : World} {R : Ending → World → Prop} (hf : P.funcs[f]? = some fn) (hb : fn.body = some c) (hn : fn.ntmps = n) (hl : Nat.ble args.length n = true)
    (h : CW P n c (PRet P n fn R) (envA args) w) : Calls P f args.toArray w R := by
  have hl' : args.length ≤ n := by simpa using hl
  have hfr : Fr n (envA args) := fun t ht => by unfold envA; rw [List.getD_eq_getElem?_getD, List.getElem?_eq_none (by omega)]; rfl
  refine calls_of_wp hf hb ?_
  have e1 : ({ tmps := args.toArray ++ Array.replicate (fn.ntmps - args.toArray.size) undef, defers := [] } : Act) = frm n (envA args) := by
    unfold frm envA
    simp only [Act.mk.injEq, and_true]
    apply Array.ext
    · simp; omega
    · intro i h1 h2
      simp at h1 h2
      by_cases hi : i < args.length
      · simp [Array.getElem_append, hi]
      · simp [Array.getElem_append, hi]
  rw [e1]
  refine Code.wp_mono (fun ex a w' hq => ?_) (h hfr)
  obtain ⟨e', rfl, hf', hq⟩ := hq
  cases ex with
  | normal => exact ⟨rfl, hq⟩
  | ret => exact ⟨rfl, hq⟩
  | _ => exact hq.elim
end
end Go.Proofs.Ytaelmkkobjdgbaa

namespace Go.Proofs.Ytaelmkkobjdgbaa
set_option linter.unusedSimpArgs false
set_option linter.unusedVariables false
open Go.RowKit
set_option linter.unusedVariables false

/-- Blocks of the call's own, and what lies in them. -/
structure Bk (w0 w : World) (L : List (Nat × Obj)) : Prop where
  gr : Gr w0 w
  all : ∀ (i g : Nat) (o : Obj), L[i]? = some (g, o) → w.heap[g]? = some o
  own : ∀ (i g : Nat) (o : Obj), L[i]? = some (g, o) → w0.heap.size ≤ g
  nd : ∀ (i j g : Nat) (o o' : Obj), L[i]? = some (g, o) → L[j]? = some (g, o') → i = j
section
variable {w0 w w' : World} {L : List (Nat × Obj)}
theorem Bk.init (w : World) : Bk w w [] := ⟨Gr.refl w, fun _ _ _ h => by simp at h, fun _ _ _ h => by simp at h, fun _ _ _ _ _ h => by simp at h⟩
theorem Bk.grow (h : Bk w0 w L) (hg : Gr w w') : Bk w0 w' L := ⟨h.gr.trans hg, fun i g o hi => hg.blk (h.all i g o hi), h.own, h.nd⟩
theorem Bk.lt (h : Bk w0 w L) {i g : Nat} {o : Obj} (hi : L[i]? = some (g, o)) : g < w.heap.size := (Array.getElem?_eq_some_iff.1 (h.all i g o hi)).1
theorem Bk.alloc (h : Bk w0 w L) (o : Obj) : Bk w0 (w.alloc o) (L ++ [(w.heap.size, o)]) := by
  have hg := (Gr.refl w).alloc o
  have key : ∀ (i g : Nat) (o' : Obj), (L ++ [(w.heap.size, o)])[i]? = some (g, o') → (L[i]? = some (g, o')) ∨ (i = L.length ∧ g = w.heap.size ∧ o' = o) := by
    intro i g o' hi
    rcases Nat.lt_or_ge i L.length with h1 | h1
    · rw [List.getElem?_append_left h1] at hi; exact .inl hi
    · rw [List.getElem?_append_right h1] at hi
      rcases h2 : i - L.length with _ | k
      · rw [h2] at hi
        simp at hi
        exact .inr ⟨by omega, hi.1.symm, hi.2.symm⟩
      · rw [h2] at hi; simp at hi
  refine ⟨h.gr.trans hg, fun i g o' hi => ?_, fun i g o' hi => ?_, fun i j g o1 o2 hi hj => ?_⟩
  · rcases key i g o' hi with h1 | ⟨_, rfl, rfl⟩
    · exact hg.blk (h.all i g o' h1)
    · exact heap_alloc_new w _
  · rcases key i g o' hi with h1 | ⟨_, rfl, rfl⟩
    · exact h.own i g o' h1
    · exact h.gr.size
  · rcases key i g o1 hi with h1 | ⟨e1, rfl, _⟩ <;> rcases key j _ o2 hj with h2 | ⟨e2, e3, _⟩
    · exact h.nd i j g o1 o2 h1 h2
    · have := h.lt h1; omega
    · have := h.lt h2; omega
    · omega
theorem Bk.set (h : Bk w0 w L) {i g : Nat} {C : Array Value} {T : TypeId} (hi : L[i]? = some (g, .cells C T (0, 0))) (off : Nat) (vs : List Value) : Bk w0 (w.setCells g off vs) (L.set i (g, .cells (setL C off vs) T (0, 0))) := by
  obtain ⟨k1, k2, k3⟩ := setCells_blk (t := T) vs off w C (h.all i g _ hi)
  have hil : i < L.length := (List.getElem?_eq_some_iff.1 hi).1
  have key : ∀ (j g' : Nat) (o' : Obj), (L.set i (g, .cells (setL C off vs) T (0, 0)))[j]? = some (g', o') → (j ≠ i ∧ L[j]? = some (g', o')) ∨ (j = i ∧ g' = g ∧ o' = .cells (setL C off vs) T (0, 0)) := by
    intro j g' o' hj
    rw [List.getElem?_set] at hj
    by_cases hij : i = j
    · subst hij; rw [if_pos rfl, if_pos hil] at hj; simp at hj; exact .inr ⟨rfl, hj.1.symm, hj.2.symm⟩
    · rw [if_neg hij] at hj; exact .inl ⟨fun e => hij e.symm, hj⟩
  refine ⟨h.gr.upd k2 (by simpa using h.own i g _ hi), fun j g' o' hj => ?_, fun j g' o' hj => ?_, fun j k g' o1 o2 hj hk => ?_⟩
  · rcases key j g' o' hj with ⟨h1, h2⟩ | ⟨_, rfl, rfl⟩
    · refine k2.blk (h.all j g' o' h2) ?_
      simp only [List.mem_singleton]
      rintro rfl
      exact h1 (h.nd j i g' _ _ h2 hi)
    · exact k1
  · rcases key j g' o' hj with ⟨h1, h2⟩ | ⟨_, rfl, rfl⟩
    · exact h.own j g' o' h2
    · exact h.own i g' _ hi
  · rcases key j g' o1 hj with ⟨h1, h2⟩ | ⟨e1, rfl, _⟩ <;> rcases key k _ o2 hk with ⟨h3, h4⟩ | ⟨e2, e3, _⟩
    · exact h.nd j k g' o1 o2 h2 h4
    · subst e3; exact absurd (h.nd j i _ _ _ h2 hi) h1
    · exact absurd (h.nd k i _ _ _ h4 hi) h3
    · omega
end
/-- A variable of a type, read out of a block's cells. -/
def ldV (P : Program) (ty : TypeId) (C : Array Value) (off : Nat) : Option Value :=
  match P.underlying ty, (P.info? ty).map (·.size) with
  | some d, some k => if d.isRow = true then (if Nat.ble (off + k) C.size = true then some (.agg (C.toList.drop off |>.take k).toArray) else none) else C[off]?
  | _, _ => none
section
variable {P : Program} {n : Nat} {ops : Array Oper} {Q : Post} {l : List Oper} {e : Nat → Value} {w0 w : World} {o : Oper} {L : List (Nat × Obj)}
theorem run_ld {ty : TypeId} {g off : Nat} {C : Array Value} {T : TypeId} {fr : Nat × Nat} {v : Value} (hb : w.heap[g]? = some (.cells C T fr)) (hv : ldV P ty C off = some v) :
    (Instr.loadAt ty (.pointer (some ⟨g, off, none⟩))).run P w = .ok v w := by
  unfold ldV at hv
  cases hu : P.underlying ty with
  | none => rw [hu] at hv; cases hv
  | some d =>
    cases hi : (P.info? ty).map (·.size) with
    | none => rw [hu, hi] at hv; cases hv
    | some k =>
      rw [hu, hi] at hv
      simp only at hv
      by_cases hd : d.isRow = true
      · rw [if_pos hd] at hv
        by_cases hk : Nat.ble (off + k) C.size = true
        · rw [if_pos hk] at hv
          injection hv with hv
          subst hv
          have hk' : off + k ≤ C.size := by simpa using hk
          refine run_loadAt_mid w g off ty _ d (fun j u hj => ?_) hu hd (by rw [hi]; simp; omega)
          refine cell_of_row hb _ _ ?_
          have hlt : j < k := by
            have := (List.getElem?_eq_some_iff.1 hj).1
            simp at this; omega
          rw [List.getElem?_take, if_pos hlt, List.getElem?_drop, Array.getElem?_toList] at hj
          exact hj
        · rw [if_neg hk] at hv; cases hv
      · rw [if_neg hd] at hv
        have hc : w.cell? ⟨g, off, none⟩ = some v := cell_of_row hb _ _ hv
        have hagg : (isAgg ty).run P w = .ok false w := by
          unfold isAgg
          rw [Sem.run_bind, run_underlying hu w]
          cases d <;> simp_all
        simp only [Instr.loadAt, Instr.sureAddr, Sem.run_bind, Sem.run_pure, Result.andThen_ok, loadVar, hagg]
        have hl := Go.run_load (P := P) (w := w) ⟨g, off, none⟩ .plain
        simp only [hc] at hl
        exact hl
theorem SL.load {ty : TypeId} {x : Operand} {g off : Nat} {C : Array Value} {T : TypeId} {fr : Nat × Nat} {v : Value} (hg : o.guard = none) (hd : dok n o.dst = true) (ho : o.op = .load ty x) (hx : evE e x = .pointer (some ⟨g, off, none⟩))
    (hb : w.heap[g]? = some (.cells C T fr)) (hv : ldV P ty C off = some v) (h : SL P n ops Q l (dput e o.dst v) w) : SL P n ops Q (o :: l) e w :=
  SL.val hg hd (by unfold execOp; simp only [ho, hx, Sem.run_bind, run_ld hb hv, Result.andThen_ok, Sem.run_pure]) h
/-- New memory. -/
theorem SL.new {mk : Nat → Value} {C : Array Value} {T : TypeId} (hs : Bk w0 w L) (hg : o.guard = none) (hd : dok n o.dst = true) (hrun : (execOp (evE e) o).run P w = .ok (.value (mk w.heap.size)) (w.alloc (.cells C T)))
    (h : ∀ g w', Bk w0 w' (L ++ [(g, .cells C T (0, 0))]) → SL P n ops Q l (dput e o.dst (mk g)) w') : SL P n ops Q (o :: l) e w :=
  SL.val hg hd hrun (h _ _ (hs.alloc _))
theorem run_st {ty : TypeId} {g off : Nat} {C : Array Value} {T : TypeId} {v : Value} (hb : w.heap[g]? = some (.cells C T (0, 0))) (hi : (P.info? ty).map (·.size) = some v.cells.size) (h1 : v.cells.all (·.oneCell') = true) (hroom : Nat.ble (off + v.cells.size) C.size = true) :
    (Instr.storeAt ty (.pointer (some ⟨g, off, none⟩)) v).run P w = .ok () (w.setCells g off v.cells.toList) := by
  have hroom' : off + v.cells.size ≤ C.size := by simpa using hroom
  have ht : w.there g off v.cells.size := fun j hj => by
    refine ⟨?_, by simp [World.frozen?, hb]⟩
    have : off + j < C.size := by omega
    simp [World.cell?, hb, this]
  have := run_storeCells_cells (P := P) g off v.cells.toList 0 w (fun j hj => by simpa using (ht j (by simpa using hj)).1) (fun j hj => by simpa using (ht j (by simpa using hj)).2)
    (fun u hu => (Array.all_eq_true_iff_forall_mem.1 h1) u (by simpa using hu))
  cases hq : P.info? ty with
  | none => simp [hq] at hi
  | some i =>
    have hsz : v.cells.size = i.size := by simp [hq] at hi; omega
    simp only [Nat.add_zero] at this
    simp only [Instr.storeAt, Instr.sureAddr, Sem.run_bind, Sem.run_pure, Result.andThen_ok]
    simp [storeVar, sizeOf, typeInfo, hq, hsz, this]
theorem SL.store {ty : TypeId} {x y : Operand} {i g off : Nat} {C C' : Array Value} {T : TypeId} {v : Value} {L' : List (Nat × Obj)} (hs : Bk w0 w L) (hg : o.guard = none) (hd : o.dst = none) (ho : o.op = .store ty x y)
    (hx : evE e x = .pointer (some ⟨g, off, none⟩)) (hy : evE e y = v) (hL : L[i]? = some (g, .cells C T (0, 0))) (hi : (P.info? ty).map (·.size) = some v.cells.size) (h1 : v.cells.all (·.oneCell') = true) (hroom : Nat.ble (off + v.cells.size) C.size = true)
    (hC : setL C off v.cells.toList = C') (hL' : L.set i (g, .cells C' T (0, 0)) = L') (h : ∀ w', Bk w0 w' L' → SL P n ops Q l e w') : SL P n ops Q (o :: l) e w := by
  subst hC; subst hL'; subst hy
  refine SL.skip hg hd ?_ (h _ (hs.set hL off _))
  unfold execOp
  simp only [ho, hx, Sem.run_bind, run_st (hs.all i g _ hL) hi h1 hroom, Result.andThen_ok, Sem.run_pure]
/-! ### The end -/
theorem PRet.tmp {fn : Func} {R : Ending → World → Prop} {t : Tmp} {v : Value} (hr : fn.results = #[.tmp t]) (ht : Nat.blt t n = true) (hv : e t = v) (h : R (.returned v) w) : PRet P n fn R .ret e w := by
  have ht' : t < n := by simpa using ht
  exact ⟨v, by simp [results, hr, frm, ht', hv], h⟩
theorem run_ldVar {ty : TypeId} {g off : Nat} {C : Array Value} {T : TypeId} {fr : Nat × Nat} {v : Value} (hb : w.heap[g]? = some (.cells C T fr)) (hv : ldV P ty C off = some v) : (loadVar ty ⟨g, off, none⟩).run P w = .ok v w := by
  have := run_ld (P := P) hb hv
  simpa only [Instr.loadAt, Instr.sureAddr, Sem.run_bind, Sem.run_pure, Result.andThen_ok] using this
theorem PRet.cell {fn : Func} {R : Ending → World → Prop} {t : Tmp} {ty : TypeId} {g : Nat} {C : Array Value} {T : TypeId} {fr : Nat × Nat} {v : Value} (hr : fn.results = #[.cell t ty]) (ht : Nat.blt t n = true) (hx : e t = .pointer (some ⟨g, 0, none⟩))
    (hb : w.heap[g]? = some (.cells C T fr)) (hv : ldV P ty C 0 = some v) (h : R (.returned v) w) : PRet P n fn R .ret e w := by
  have ht' : t < n := by simpa using ht
  exact ⟨v, by simp [results, hr, frm, ht', hx, asAddr, run_ldVar hb hv], h⟩
end
end Go.Proofs.Ytaelmkkobjdgbaa

namespace Go.Proofs.Ytaelmkkobjdgbaa
set_option linter.unusedSimpArgs false
set_option linter.unusedVariables false
open Go.RowKit
set_option linter.unusedVariables false

def fillE : List Oper → Nat → (Nat → Value) → (Nat → Value) → (Nat → Value)
  | [], _, _, e => e
  | o :: l, i, ys, e => fillE l (i + 1) ys (dput e o.dst (ys i))
theorem fillA_frm {n : Nat} : ∀ (l : List Oper) (i : Nat) (ys e : Nat → Value), fillA l i ys (frm n e) = frm n (fillE l i ys e)
  | [], _, _, _ => rfl
  | o :: l, i, ys, e => by unfold fillA fillE; rw [frm_dput]; exact fillA_frm l (i + 1) ys _
theorem Fr.fill {n : Nat} : ∀ (l : List Oper) (i : Nat) (ys e : Nat → Value), (l.all fun o => dok n o.dst) = true → Fr n e → Fr n (fillE l i ys e)
  | [], _, _, _, _, h => h
  | o :: l, i, ys, e, ha, h => by
    simp only [List.all_cons, Bool.and_eq_true] at ha
    exact Fr.fill l (i + 1) ys _ ha.2 (h.dput ha.1 _)
theorem OpE.known {P : Program} {l : List Oper} {ys e : Nat → Value} {o : Oper} {w : World} {K : Value → World → Prop} {j : Nat} {v : Value} (hj : ys j = v) (h : OpE P (fillE l 0 (setY ys j v) e) o w K) : OpE P (fillE l 0 ys e) o w K := by
  have : setY ys j v = ys := by funext k; unfold setY; split <;> simp_all
  rwa [this] at h
section
variable {P : Program} {n : Nat} {l : List Oper} {Q : Post} {e : Nat → Value} {w : World}
/-- Operations ahead of a region's tail: each leaves a fact, which all others keep. -/
def StepE (P : Program) (ops : Array Oper) (A : (Nat → Value) → Nat → Value) (F : Nat → Value → World → Prop) (Base : World → Prop) (i : Nat) (o : Oper) : Prop :=
  ∀ (L : Nat → Prop) (ys : Nat → Value) (w : World), Base w → (∀ j, L j → F j (ys j) w) → LAll .any L o.after.toList → ∀ K : Value → World → Prop,
    (∀ v w', Base w' → F i v w' → (∀ j, L j → F j (ys j) w → F j (ys j) w') → K v w') → OpG P ops (A ys) o w K
def StepsE (P : Program) (ops : Array Oper) (A : (Nat → Value) → Nat → Value) (F : Nat → Value → World → Prop) (Base : World → Prop) : Nat → List Oper → Prop
  | _, [] => True
  | i, o :: r => StepE P ops A F Base i o ∧ StepsE P ops A F Base (i + 1) r
theorem StepsE.at {ops : Array Oper} {A : (Nat → Value) → Nat → Value} {F : Nat → Value → World → Prop} {Base : World → Prop} : ∀ {r : List Oper} {i : Nat}, StepsE P ops A F Base i r → ∀ k o, r[k]? = some o → StepE P ops A F Base (i + k) o
  | [], _, _, _, _, h => by simp at h
  | p :: r, i, hs, 0, o, h => by
    simp only [List.getElem?_cons_zero, Option.some.injEq] at h
    subst h
    exact hs.1
  | p :: r, i, hs, k + 1, o, h => by
    have := StepsE.at hs.2 k o (by simpa using h)
    rw [show i + 1 + k = i + (k + 1) by omega] at this
    exact this
/-- What an operation is bound to. -/
def preds (l : List Oper) (j : Nat) : List Nat := ((l[j]?).map fun o => (o.after.toList.filter fun e => Region.binds .any e).map (·.on)).getD []
/-- All below are bound ahead, through others. -/
def cov (l : List Oper) : Nat → List Nat → Bool
  | 0, _ => true
  | j + 1, S => S.contains j && cov l j (S ++ preds l j)
def closedL (l : List Oper) (L : Nat → Prop) : Prop := ∀ j, L j → ∀ x ∈ preds l j, L x
theorem cov_sound {L : Nat → Prop} (hc : closedL l L) : ∀ (j : Nat) (S : List Nat), (∀ x ∈ S, L x) → cov l j S = true → ∀ k, k < j → L k
  | 0, _, _, _, k, hk => by omega
  | j + 1, S, hS, h, k, hk => by
    unfold cov at h
    rw [Bool.and_eq_true] at h
    have hj : L j := hS j (by simpa using h.1)
    rcases Nat.lt_or_ge k j with h1 | h1
    · exact cov_sound hc j _ (fun x hx => by
        rcases List.mem_append.1 hx with hx | hx
        · exact hS x hx
        · exact hc j hj x hx) h.2 k h1
    · have : k = j := by omega
      rw [this]; exact hj
/-- Each operation is bound to elder ones alone; from the m-th on to all of them. -/
def tailB (l : List Oper) (m : Nat) : Bool := (List.range l.length).all fun i => (preds l i).all (fun x => decide (x < i)) && (decide (i < m) || cov l i (preds l i))
theorem tailB_lt {m : Nat} (h : tailB l m = true) {i : Nat} (hi : i < l.length) : ∀ x ∈ preds l i, x < i := by
  have := List.all_eq_true.1 h i (by simpa using hi)
  rw [Bool.and_eq_true] at this
  intro x hx
  simpa using List.all_eq_true.1 this.1 x hx
theorem tailB_cov {m : Nat} (h : tailB l m = true) {i : Nat} (hi : i < l.length) (hm : m ≤ i) : cov l i (preds l i) = true := by
  have := List.all_eq_true.1 h i (by simpa using hi)
  rw [Bool.and_eq_true, Bool.or_eq_true] at this
  rcases this.2 with h1 | h1
  · have : i < m := by simpa using h1
    omega
  · exact h1
theorem ready_iff {listed : Array Bool} (hsz : listed.size = l.length) (i : Nat) : i ∈ Region.ready .any l.toArray listed ↔ (i < l.length ∧ ¬ (listed[i]? = some true) ∧ ∀ x ∈ preds l i, listed[x]? = some true) := by
  unfold Region.ready preds
  rw [List.mem_filter]
  constructor
  · rintro ⟨h1, h2⟩
    have hi : i < l.length := by simpa using h1
    have e2 : l.toArray[i]? = some l[i] := by simp [hi]
    rw [e2] at h2
    simp only [Option.map_some, Option.getD_some, Bool.and_eq_true, Bool.not_eq_true'] at h2
    refine ⟨hi, ?_, fun x hx => ?_⟩
    · have hlt : i < listed.size := by omega
      have : listed[i] = false := by simpa [Array.getD, hlt] using h2.1
      simp [hlt, this]
    · rw [List.getElem?_eq_getElem hi] at hx
      simp only [Option.map_some, Option.getD_some, List.mem_map, List.mem_filter] at hx
      obtain ⟨e, ⟨he, hb⟩, rfl⟩ := hx
      have := Array.all_eq_true'.1 h2.2 e (by simpa using he)
      rw [hb] at this
      simp only [Bool.not_true, Bool.false_or, Array.getD_eq_getD_getElem?] at this
      rcases hx : listed[e.on]? with _ | b
      · rw [hx] at this; cases this
      · rw [hx] at this; simp at this; rw [this]
  · rintro ⟨hi, hn, hp⟩
    refine ⟨by simpa using hi, ?_⟩
    have e2 : l.toArray[i]? = some l[i] := by simp [hi]
    rw [e2]
    simp only [Option.map_some, Option.getD_some, Bool.and_eq_true, Bool.not_eq_true']
    constructor
    · have hlt : i < listed.size := by omega
      rcases hb : listed[i] with _ | _
      · simp [Array.getD, hlt, hb]
      · exact absurd (by simp [hlt, hb]) hn
    · rw [Array.all_eq_true']
      intro e he
      rcases hb : Region.binds .any e with _ | _
      · rfl
      · have := hp e.on (by
          rw [List.getElem?_eq_getElem hi]
          simp only [Option.map_some, Option.getD_some, List.mem_map, List.mem_filter]
          exact ⟨e, ⟨by simpa using he, hb⟩, rfl⟩)
        simp [Array.getD_eq_getD_getElem?, this]
/-- The tail: one behind the other. -/
theorem wpAny_tail {m : Nat} (hb : tailB l m = true) : ∀ (fuel k : Nat) (listed : Array Bool) (e : Nat → Value) (w : World), m ≤ k → k ≤ l.length → listed.size = l.length → (∀ j, j < l.length → (listed[j]? = some true ↔ j < k)) → l.length ≤ k + fuel →
    SL P n l.toArray Q (l.drop k) e w → Fr n e → wpAny P .any l.toArray (onE n Q) fuel listed (frm n e) w := by
  have hready : ∀ (k : Nat) (listed : Array Bool), m ≤ k → listed.size = l.length → (∀ j, j < l.length → (listed[j]? = some true ↔ j < k)) → ∀ i, i ∈ Region.ready .any l.toArray listed ↔ (i = k ∧ k < l.length) := by
    intro k listed hmk hsz hl i
    rw [ready_iff hsz]
    constructor
    · rintro ⟨hi, hn, hp⟩
      have hki : ¬ i < k := fun h => hn ((hl i hi).2 h)
      rcases Nat.lt_or_ge k i with h1 | h1
      · exfalso
        have hc : closedL l (fun j => listed[j]? = some true) := by
          intro j hj x hx
          have hjl : j < l.length := by
            have := (Array.getElem?_eq_some_iff.1 hj).1; omega
          have := tailB_lt hb hjl x hx
          exact (hl x (by omega)).2 (by have := (hl j hjl).1 hj; omega)
        have := cov_sound hc i _ hp (tailB_cov hb hi (by omega)) k h1
        have := (hl k (by omega)).1 this
        omega
      · have : i = k := by omega
        exact ⟨this, by omega⟩
    · rintro ⟨rfl, hi⟩
      refine ⟨hi, fun h => by have := (hl i hi).1 h; omega, fun x hx => ?_⟩
      have := tailB_lt hb hi x hx
      exact (hl x (by omega)).2 this
  intro fuel
  induction fuel with
  | zero =>
    intro k listed e w hmk hk hsz hl hf hS hfr
    have hkl : k = l.length := by omega
    subst hkl
    rw [List.drop_length] at hS
    refine ⟨?_, ⟨e, rfl, hfr, hS⟩⟩
    rw [List.eq_nil_iff_forall_not_mem]
    intro i hi
    have := (hready _ listed hmk hsz hl i).1 hi
    omega
  | succ fuel ih =>
    intro k listed e w hmk hk hsz hl hf hS hfr
    refine ⟨fun hr => ?_, fun i hi => ?_⟩
    · rcases Nat.lt_or_ge k l.length with h1 | h1
      · have := (hready k listed hmk hsz hl k).2 ⟨rfl, h1⟩
        rw [hr] at this; cases this
      · have hkl : k = l.length := by omega
        subst hkl
        rw [List.drop_length] at hS
        exact ⟨e, rfl, hfr, hS⟩
    · obtain ⟨rfl, hil⟩ := (hready k listed hmk hsz hl i).1 hi
      rw [List.drop_eq_getElem_cons hil] at hS
      obtain ⟨hd, hS⟩ := hS
      refine wpOp_step (o := l[i]) (by simp [hil]) fun K hK => ?_
      refine OpV.wanted hfr ?_
      have hnext : ∀ v w', SL P n l.toArray Q (l.drop (i + 1)) (dput e l[i].dst v) w' → K ((frm n e).put l[i].dst v) w' := fun v w' hv => by
        rw [frm_dput]
        refine hK _ _ (ih (i + 1) _ _ _ (by omega) (by omega) (by simpa using hsz) (fun j hj => ?_) (by omega) hv (hfr.dput hd v))
        by_cases hij : j = i
        · subst hij; simp [hsz, hil]
        · rw [Array.getElem?_setIfInBounds_ne (by omega), hl j hj]; omega
      exact hS.mono hnext
/-- .. and what stands ahead of it, in whatever order. -/
theorem wpAny_head {m : Nat} (hb : tailB l m = true) (hml : m ≤ l.length) (F : Nat → Value → World → Prop) (Base : World → Prop) (hdst : apartD (l.take m) = true) (hok : ((l.take m).all fun o => dok n o.dst) = true) (hf : Fr n e)
    (hstep : StepsE P l.toArray (fun ys => fillE (l.take m) 0 ys e) F Base 0 (l.take m))
    (htail : ∀ ys w, Base w → (∀ j, j < m → F j (ys j) w) → SL P n l.toArray Q (l.drop m) (fillE (l.take m) 0 ys e) w) :
    ∀ (fuel : Nat) (listed : Array Bool) (ys : Nat → Value) (w : World), listed.size = l.length → listed.toList.count false ≤ fuel → Base w → (∀ j, listed[j]? = some true → j < m ∧ F j (ys j) w) →
      closedL l (fun j => listed[j]? = some true) → wpAny P .any l.toArray (onE n Q) fuel listed (frm n (fillE (l.take m) 0 ys e)) w := by
  intro fuel
  induction fuel with
  | zero =>
    intro listed ys w hsz hc hB hD hcl
    have hall : ∀ i, i < l.length → listed[i]? = some true := by
      intro i hi
      have h0 : listed.toList.count false = 0 := by omega
      rw [List.count_eq_zero] at h0
      have hlt : i < listed.size := by omega
      rcases hbb : listed[i] with _ | _
      · exact absurd (by rw [← hbb]; exact Array.getElem_mem_toList _) h0
      · simp [hlt, hbb]
    have hm : m = l.length := by
      rcases Nat.lt_or_ge m l.length with h1 | h1
      · have := (hD m (hall m h1)).1; omega
      · omega
    exact wpAny_tail hb 0 m listed _ w (Nat.le_refl _) hml hsz (fun j hj => ⟨fun _ => by omega, fun _ => hall j hj⟩) (by omega) (htail ys w hB fun j hj => (hD j (hall j (by omega))).2) (Fr.fill _ _ _ _ hok hf)
  | succ fuel ih =>
    intro listed ys w hsz hc hB hD hcl
    by_cases hpre : ∀ j, j < m → listed[j]? = some true
    · refine wpAny_tail hb (fuel + 1) m listed _ w (Nat.le_refl _) hml hsz (fun j hj => ⟨fun h => (hD j h).1, fun h => hpre j h⟩) ?_ (htail ys w hB fun j hj => (hD j (hpre j hj)).2) (Fr.fill _ _ _ _ hok hf)
      have hcnt : l.length - m ≤ listed.toList.count false := by
        have h1 : (listed.toList.drop m).count false = (listed.toList.drop m).length := by
          rw [List.count_eq_length]
          intro b hbm
          obtain ⟨k, hk, hkb⟩ := List.getElem_of_mem hbm
          rw [List.getElem_drop] at hkb
          have hk' : m + k < listed.toList.length := by simp at hk; simp; omega
          cases b with
          | false => rfl
          | true =>
            have : listed[m + k]? = some true := by
              rw [← Array.getElem?_toList, List.getElem?_eq_getElem hk', hkb]
            have := (hD _ this).1
            omega
        have h2 := (List.drop_sublist m listed.toList).count_le false
        rw [h1] at h2
        simpa [hsz] using h2
      omega
    · refine ⟨fun hr => ?_, fun i hi => ?_⟩
      · exfalso
        apply hpre
        intro j
        induction j using Nat.strongRecOn with
        | ind j ihj =>
          intro hj
          refine Classical.byContradiction fun hn => ?_
          have : j ∈ Region.ready .any l.toArray listed := (ready_iff hsz j).2 ⟨by omega, hn, fun x hx => by
            have := tailB_lt hb (i := j) (by omega) x hx
            exact ihj x this (by omega)⟩
          rw [hr] at this; cases this
      · obtain ⟨hil, hni, hp⟩ := (ready_iff hsz i).1 hi
        have him : i < m := by
          rcases Nat.lt_or_ge i m with h1 | h1
          · exact h1
          · exact absurd (fun j hj => cov_sound hcl i _ hp (tailB_cov hb hil h1) j (by omega)) hpre
        have hli : (l.take m)[i]? = some l[i] := by rw [List.getElem?_take, if_pos him]; simp [hil]
        refine wpOp_step (o := l[i]) (by simp [hil]) fun K hK => ?_
        have hst := StepsE.at hstep i l[i] hli
        rw [Nat.zero_add] at hst
        refine OpG.wanted (Fr.fill _ _ _ _ hok hf) ?_
        refine hst (fun j => listed[j]? = some true) ys w hB (fun j hj => (hD j hj).2) (LAll.of fun x hx hbx => ?_) _ fun v w' hB' hFi hkeep => ?_
        · refine hp x.on ?_
          unfold preds
          rw [List.getElem?_eq_getElem hil]
          simp only [Option.map_some, Option.getD_some, List.mem_map, List.mem_filter]
          exact ⟨x, ⟨hx, hbx⟩, rfl⟩
        · have e1 : (frm n (fillE (l.take m) 0 ys e)).put l[i].dst v = frm n (fillE (l.take m) 0 (fun j => if j = i then v else ys j) e) := by
            rw [← fillA_frm, ← fillA_frm, fillA_set (l.take m) 0 i l[i] ys (frm n e) v hdst hli, Nat.zero_add]
          rw [e1]
          have hlt : i < listed.size := by omega
          have hfi : listed[i] = false := by
            rcases hbb : listed[i] with _ | _
            · rfl
            · exact absurd (by simp [hlt, hbb]) hni
          have hset : ∀ j, (listed.setIfInBounds i true)[j]? = some true ↔ (j = i ∨ listed[j]? = some true) := by
            intro j
            by_cases ej : j = i
            · subst ej; simp [hlt]
            · rw [Array.getElem?_setIfInBounds_ne (by omega)]; simp [ej]
          refine hK _ _ (ih _ _ _ (by simpa using hsz) ?_ hB' (fun j hj => ?_) (fun j hj x hx => ?_))
          · have : (listed.setIfInBounds i true).toList.count false + 1 = listed.toList.count false := by
              rw [Array.toList_setIfInBounds]
              have h1 : i < listed.toList.length := by simpa using hlt
              rw [List.count_set h1]
              have h2 : listed.toList[i] = false := by simpa using hfi
              have h3 : 0 < listed.toList.count false := List.count_pos_iff.2 (by rw [← h2]; exact List.getElem_mem h1)
              rw [h2, if_pos (show (false == false) = true from rfl), if_neg (by decide)]
              omega
            omega
          · rcases (hset j).1 hj with rfl | hj'
            · exact ⟨him, by simpa using hFi⟩
            · have hji : j ≠ i := fun e => hni (e ▸ hj')
              refine ⟨(hD j hj').1, ?_⟩
              simp only [hji, if_false]
              exact hkeep j hj' (hD j hj').2
          · rcases (hset j).1 hj with rfl | hj'
            · exact (hset x).2 (.inr (hp x hx))
            · exact (hset x).2 (.inr (hcl j hj' x hx))
/-- THE RULE for a region that draws its order: facts ahead of the tail, the tail one behind the other. -/
theorem CW.draw {id : Nat} (m : Nat) (F : Nat → Value → World → Prop) (Base : World → Prop) (hm : P.follows .mixedOrders = true) (hb : tailB l m = true) (hml : Nat.ble m l.length = true) (hdst : apartD (l.take m) = true) (hok : ((l.take m).all fun o => dok n o.dst) = true)
    (hB : Base w.drew) (hstep : StepsE P l.toArray (fun ys => fillE (l.take m) 0 ys e) F Base 0 (l.take m))
    (htail : ∀ ys w, Base w → (∀ j, j < m → F j (ys j) w) → SL P n l.toArray Q (l.drop m) (fillE (l.take m) 0 ys e) w) : CW P n (.region id l.toArray true) Q e w := fun hf => by
  refine wp_region_any hm ?_
  obtain ⟨ys, h⟩ := fillA_old (l.take m) (frm n e) 0
  have he : ∀ i : Nat, ¬ ((Array.replicate l.toArray.size false)[i]? = some true) := by
    intro i hi
    rw [Array.getElem?_replicate] at hi
    split at hi <;> simp at hi
  have := wpAny_head (P := P) (Q := Q) hb (by simpa using hml) F Base hdst hok hf hstep htail l.toArray.size (Array.replicate l.toArray.size false) ys w.drew (by simp) (by simp) hB (fun j hj => absurd hj (he j)) (fun j hj => absurd hj (he j))
  rw [fillA_frm] at h
  rw [h] at this
  exact this
theorem SL.knownY {ops : Array Oper} {tl pre : List Oper} {ys : Nat → Value} {j : Nat} {v : Value} (hj : ys j = v) (h : SL P n ops Q tl (fillE pre 0 (setY ys j v) e) w) : SL P n ops Q tl (fillE pre 0 ys e) w := by
  have : setY ys j v = ys := by funext k; unfold setY; split <;> simp_all
  rwa [this] at h
/-- A block that a region has made. -/
def NewB (ws : World) (mk : Nat → Value) (o : Obj) (v : Value) (W : World) : Prop := ∃ g, v = mk g ∧ W.heap[g]? = some o ∧ ws.heap.size ≤ g
theorem NewB.gr {ws : World} {mk : Nat → Value} {o : Obj} {v : Value} {W W' : World} (hg : Gr W W') (h : NewB ws mk o v W) : NewB ws mk o v W' := by
  obtain ⟨g, h1, h2, h3⟩ := h; exact ⟨g, h1, hg.blk h2, h3⟩
theorem Bk.add {w0 w : World} {L : List (Nat × Obj)} (h : Bk w0 w L) {g : Nat} {o : Obj} (hb : w.heap[g]? = some o) (hg : w0.heap.size ≤ g) (hn : ∀ (i g' : Nat) (o' : Obj), L[i]? = some (g', o') → g' ≠ g) : Bk w0 w (L ++ [(g, o)]) := by
  have key : ∀ (i g' : Nat) (o' : Obj), (L ++ [(g, o)])[i]? = some (g', o') → (L[i]? = some (g', o')) ∨ (i = L.length ∧ g' = g ∧ o' = o) := by
    intro i g' o' hi
    rcases Nat.lt_or_ge i L.length with h1 | h1
    · rw [List.getElem?_append_left h1] at hi; exact .inl hi
    · rw [List.getElem?_append_right h1] at hi
      rcases h2 : i - L.length with _ | k
      · rw [h2] at hi
        simp at hi
        exact .inr ⟨by omega, hi.1.symm, hi.2.symm⟩
      · rw [h2] at hi; simp at hi
  refine ⟨h.gr, fun i g' o' hi => ?_, fun i g' o' hi => ?_, fun i j g' o1 o2 hi hj => ?_⟩
  · rcases key i g' o' hi with h1 | ⟨_, rfl, rfl⟩
    · exact h.all i g' o' h1
    · exact hb
  · rcases key i g' o' hi with h1 | ⟨_, rfl, rfl⟩
    · exact h.own i g' o' h1
    · exact hg
  · rcases key i g' o1 hi with h1 | ⟨e1, e3, _⟩ <;> rcases key j g' o2 hj with h2 | ⟨e2, e4, _⟩
    · exact h.nd i j g' o1 o2 h1 h2
    · exact absurd e4 (hn i g' o1 h1)
    · exact absurd e3 (hn j g' o2 h2)
    · omega
theorem run_eqv {c : Sem Next} {v v' : Value} {w w' : World} (h : c.run P w = .ok (.value v) w') (e : v = v') : c.run P w = .ok (.value v') w' := e ▸ h
/-- The facts, one for each operation ahead of the tail. -/
def FW (ps : List (Value → World → Prop)) (j : Nat) (v : Value) (W : World) : Prop := match ps[j]? with | some p => p v W | none => True
def GrL : List (Value → World → Prop) → Prop
  | [] => True
  | p :: ps => (∀ v W W', Gr W W' → p v W → p v W') ∧ GrL ps
theorem FW.gr : ∀ {ps : List (Value → World → Prop)} (h : GrL ps) {j : Nat} {v : Value} {W W' : World}, Gr W W' → FW ps j v W → FW ps j v W'
  | [], _, _, _, _, _, _, h => h
  | p :: ps, h, 0, v, W, W', hg, hf => h.1 v W W' hg hf
  | p :: ps, h, j + 1, v, W, W', hg, hf => FW.gr (ps := ps) h.2 (j := j) hg hf
theorem OpE.load {o : Oper} {K : Value → World → Prop} {ty : TypeId} {x : Operand} {g off : Nat} {C : Array Value} {T : TypeId} {fr : Nat × Nat} {v : Value} (ho : o.op = .load ty x) (hx : evE e x = .pointer (some ⟨g, off, none⟩))
    (hb : w.heap[g]? = some (.cells C T fr)) (hv : ldV P ty C off = some v) (h : K v w) : OpE P e o w K :=
  .val v w (by unfold execOp; simp only [ho, hx, Sem.run_bind, run_ld hb hv, Result.andThen_ok, Sem.run_pure]) h
theorem OpE.new {o : Oper} {K : Value → World → Prop} {mk : Nat → Value} {C : Array Value} {T : TypeId} (hrun : (execOp (evE e) o).run P w = .ok (.value (mk w.heap.size)) (w.alloc (.cells C T))) (h : K (mk w.heap.size) (w.alloc (.cells C T))) : OpE P e o w K := .val _ _ hrun h
theorem Bk.drew {w0 w : World} {L : List (Nat × Obj)} (h : Bk w0 w L) : Bk w0 w.drew L := ⟨h.gr.drew, h.all, h.own, h.nd⟩
theorem CW.knownY {c : Code} {ys : Nat → Value} {j : Nat} {v : Value} (hj : ys j = v) (h : CW P n c Q (fillE l 0 (setY ys j v) e) w) : CW P n c Q (fillE l 0 ys e) w := by
  have : setY ys j v = ys := by funext k; unfold setY; split <;> simp_all
  rwa [this] at h
end
end Go.Proofs.Ytaelmkkobjdgbaa

namespace Go.Proofs.Ytaelmkkobjdgbaa
set_option linter.unusedSimpArgs false
set_option linter.unusedVariables false
open Go.RowKit
set_option linter.unusedVariables false

/-- The leaves of a value of a flat type. -/
def leafL (P : Program) : Nat → TypeId → List Value → Option (List Lit)
  | 0, _, _ => none
  | d + 1, t, cs =>
    match P.underlying t, cs with
    | some .bool, [.bool b] => some [.bool b]
    | some (.int q), [.int q' n] => if q' = q then some [.int q n] else none
    | some .string, [.string s] => some [.string s.data.toList]
    | some (.array n e), cs => if cs.length = P.cellsOf t then ((List.range n).mapM fun i => leafL P d e ((cs.drop (i * P.cellsOf e)).take (P.cellsOf e))).map List.flatten else none
    | some (.struct fs), cs => if cs.length = P.cellsOf t ∧ fs.all (·.name != "_") = true then (fs.toList.mapM fun f => leafL P d f.type ((cs.drop f.offset).take (P.cellsOf f.type))).map List.flatten else none
    | _, _ => none
def litOk : Lit → Prop
  | .int q n => (Lit.int q n).wf = true
  | .string s => s.length ≤ maxLen
  | _ => True
theorem mapM_ok {α : Type} {f g : α → Option (List Lit)} : ∀ (l : List α) (zs : List (List Lit)), (∀ x ∈ l, ∀ a, f x = some a → (∀ y ∈ a, litOk y) → g x = some a) → l.mapM f = some zs → (∀ y ∈ zs.flatten, litOk y) → l.mapM g = some zs
  | [], zs, _, h, _ => by simpa using h
  | x :: l, zs, hfg, h, hw => by
    rw [List.mapM_cons] at h ⊢
    simp only [bind, Option.bind_eq_some_iff, pure, Option.some.injEq] at h ⊢
    obtain ⟨a, h1, bs, h2, rfl⟩ := h
    have hw1 : ∀ y ∈ a, litOk y := fun y hy => hw y (by simp [hy])
    have hw2 : ∀ y ∈ bs.flatten, litOk y := fun y hy => hw y (by rw [List.flatten_cons]; exact List.mem_append_right _ hy)
    exact ⟨a, hfg x (by simp) a h1 hw1, bs, mapM_ok l bs (fun z hz => hfg z (by simp [hz])) h2 hw2, rfl⟩
theorem keyLits_leaf {P : Program} : ∀ (d : Nat) (t : TypeId) (cs : List Value) (L : List Lit), leafL P d t cs = some L → (∀ y ∈ L, litOk y) → P.keyLits d t cs = some L
  | 0, _, _, _, h, _ => by simp [leafL] at h
  | d + 1, t, cs, L, h, hw => by
    unfold leafL at h
    unfold Program.keyLits
    split at h
    · injection h with h; subst h; rename_i h1; rw [h1]
    · rename_i q q' n h1
      split at h
      · rename_i hq
        injection h with h
        subst h; subst hq
        rw [h1]
        simp only
        rw [if_pos ⟨trivial, (hw (Lit.int _ n) (by simp) : (Lit.int _ n).wf = true)⟩]
      · cases h
    · rename_i s h1
      injection h with h
      subst h
      rw [h1]
      simp only
      have := hw (.string s.data.toList) (by simp)
      simp only [litOk, Array.length_toList] at this
      rw [if_pos (show s.size ≤ maxLen from this)]
    · rename_i n e h1
      rw [h1]
      simp only
      split at h
      · rename_i hl
        rw [if_pos hl]
        rw [Option.map_eq_some_iff] at h ⊢
        obtain ⟨zs, ha, rfl⟩ := h
        exact ⟨zs, mapM_ok _ zs (fun i _ a hi hwa => keyLits_leaf d e _ a hi hwa) ha hw, rfl⟩
      · cases h
    · rename_i fs h1
      rw [h1]
      simp only
      split at h
      · rename_i hl
        rw [if_pos hl]
        rw [Option.map_eq_some_iff] at h ⊢
        obtain ⟨zs, ha, rfl⟩ := h
        exact ⟨zs, mapM_ok _ zs (fun f _ a hi hwa => keyLits_leaf d f.type _ a hi hwa) ha hw, rfl⟩
      · cases h
    · cases h
/-- == of two values of a flat type: their leaves are alike. -/
theorem run_eql_flat {P : Program} {w : World} {m : Nat} {t : TypeId} {x y : Value} {lx ly : List Lit} {b : Bool} (hm : Nat.ble m 10000 = true) (hk : P.keyTypeAt m t = true) (fx : x.formed P t = true) (fy : y.formed P t = true)
    (hx : leafL P m t x.cells.toList = some lx) (hy : leafL P m t y.cells.toList = some ly) (wx : ∀ z ∈ lx, litOk z) (wy : ∀ z ∈ ly, litOk z) (hb : b = true ↔ lx = ly) : (Op.equal t x y).run P w = .ok b w := by
  have hm' : m ≤ 10000 := by simpa using hm
  obtain ⟨r, hr, hiff⟩ := run_equalIn_deep (P := P) (10000 - m) m t hk w m m x y lx ly fx fy (keyLits_leaf m t _ lx hx wx) (keyLits_leaf m t _ ly hy wy)
  unfold Op.equal
  rw [show Op.maxDepth = 10000 - m + m by unfold Op.maxDepth; omega, hr]
  congr 1
  rw [Bool.eq_iff_iff, hiff, hb]
theorem run_eql_op {P : Program} {e : Nat → Value} {w : World} {o : Oper} {t t' : TypeId} {x y : Operand} {xs ys : Array Value} {b : Bool} (ho : o.op = .binOp .eql t x y t') (hx : evE e x = .agg xs) (hy : evE e y = .agg ys) (hg : P.eqGuardType P.depth t = false)
    (hr : (Op.equal t (.agg xs) (.agg ys)).run P w = .ok b w) : (execOp (evE e) o).run P w = .ok (.value (.bool b)) w := by
  have hr' : (Op.equalIn 10000 t (.agg xs) (.agg ys)).run P w = .ok b w := hr
  unfold execOp
  have hgd : (eqGuard .eql t x y (.agg xs) (.agg ys)).run P w = .ok () w := run_eqGuard_agg (P := P) (w := w) BinOp.eql t x y xs ys hg
  simp only [ho, hx, hy, Sem.run_bind, hgd, Result.andThen_ok, run_eql_struct, hr', Sem.run_pure]
end Go.Proofs.Ytaelmkkobjdgbaa
