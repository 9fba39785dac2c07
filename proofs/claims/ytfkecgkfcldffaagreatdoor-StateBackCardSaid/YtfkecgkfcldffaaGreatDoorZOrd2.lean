/-
  A law over any program: a region that draws its order, by what each of its operations leaves, whatever order is drawn.
  A law over any program: a region that draws its order, by facts that may name the slots of several operations, whatever order is drawn.
-/
import Derived.RegionTactic
import Derived.Test.YtfkecgkfcldffaaGreatDoorZLw4
namespace Go.Proofs.YtfkecgkfcldffaaGreatDoor
set_option linter.unusedSimpArgs false
set_option linter.unusedVariables false
open Go.RowKit

/-- Every operation's slot filled. -/
def fillA : List Oper → Nat → (Nat → Value) → Act → Act
  | [], _, _, a => a
  | o :: l, i, ys, a => fillA l (i + 1) ys (a.put o.dst (ys i))

theorem put_put (a : Act) (d : Option Tmp) (u v : Value) : (a.put d u).put d v = a.put d v := by
  cases d with
  | none => rfl
  | some d => simp [Act.put]
theorem fillA_put (l : List Oper) : ∀ (i : Nat) (ys : Nat → Value) (a : Act) (d : Option Tmp) (v : Value), (∀ o ∈ l, ∀ t, d = some t → o.dst ≠ some t) → fillA l i ys (a.put d v) = (fillA l i ys a).put d v := by
  induction l with
  | nil => intros; rfl
  | cons o l ih =>
    intro i ys a d v h
    simp only [fillA]
    rw [Act.put_comm a v (ys i) (fun t ht e => h o (by simp) t ht e), ih _ _ _ _ _ fun o' ho' => h o' (by simp [ho'])]
theorem fillA_congr (l : List Oper) : ∀ (i : Nat) (ys zs : Nat → Value) (a : Act), (∀ j, i ≤ j → ys j = zs j) → fillA l i ys a = fillA l i zs a := by
  induction l with
  | nil => intros; rfl
  | cons o l ih =>
    intro i ys zs a h
    simp only [fillA]
    rw [h i (Nat.le_refl _), ih _ ys zs _ fun j hj => h j (by omega)]
/-- No slot is two operations'. -/
def apartD : List Oper → Bool
  | [] => true
  | o :: l => (match o.dst with | none => true | some t => l.all fun o' => o'.dst != some t) && apartD l
theorem apartD_cons {o : Oper} {l : List Oper} (h : apartD (o :: l) = true) : (∀ o' ∈ l, ∀ t, o.dst = some t → o'.dst ≠ some t) ∧ apartD l = true := by
  simp only [apartD, Bool.and_eq_true] at h
  refine ⟨fun o' ho' t ht => ?_, h.2⟩
  have := h.1
  rw [ht] at this
  simp at this
  exact this o' ho'
theorem fillA_set (l : List Oper) : ∀ (i k : Nat) (o : Oper) (ys : Nat → Value) (a : Act) (v : Value), apartD l = true → l[k]? = some o → (fillA l i ys a).put o.dst v = fillA l i (fun j => if j = i + k then v else ys j) a := by
  induction l with
  | nil => intro i k o ys a v _ h; simp at h
  | cons p l ih =>
    intro i k o ys a v hd hk
    obtain ⟨h1, h2⟩ := apartD_cons hd
    rcases k with _ | k
    · simp only [List.getElem?_cons_zero, Option.some.injEq] at hk
      subst hk
      simp only [fillA, Nat.add_zero, if_true]
      rw [← fillA_put l _ _ _ _ _ (fun o' ho' t ht => h1 o' ho' t ht), put_put]
      exact fillA_congr _ _ _ _ _ fun j hj => by rw [if_neg (by omega)]
    · simp only [fillA]
      rw [if_neg (by omega), ih (i + 1) k o ys _ v h2 (by simpa using hk)]
      exact fillA_congr _ _ _ _ _ fun j hj => by rw [show i + 1 + k = i + (k + 1) by omega]
theorem put_old (a : Act) (d : Option Tmp) : a.put d ((d.map fun t => a.tmps.getD t undef).getD undef) = a := by
  cases d with
  | none => rfl
  | some t =>
    simp only [Act.put, Option.map_some, Option.getD_some]
    congr 1
    apply Array.ext
    · simp
    · intro j h1 h2
      by_cases e : t = j
      · subst e; simp [Array.getElem_setIfInBounds, h2]
      · rw [Array.getElem_setIfInBounds_ne (by simpa using h1) e]
theorem fillA_old (l : List Oper) (a : Act) : ∀ i : Nat, ∃ ys, fillA l i ys a = a := by
  induction l with
  | nil => intro i; exact ⟨fun _ => undef, rfl⟩
  | cons o l ih =>
    intro i
    obtain ⟨ys, h⟩ := ih (i + 1)
    refine ⟨fun j => if j = i then (o.dst.map fun t => a.tmps.getD t undef).getD undef else ys j, ?_⟩
    simp only [fillA, if_true]
    rw [put_old, fillA_congr l (i + 1) _ ys _ fun j hj => by rw [if_neg (by omega)]]
    exact h

section
variable {P : Program} {md : Region.Mode} {ops : Array Oper} {Q : Exit → Act → World → Prop}

end
end Go.Proofs.YtfkecgkfcldffaaGreatDoor

namespace Go.Proofs.YtfkecgkfcldffaaGreatDoor
set_option linter.unusedSimpArgs false
set_option linter.unusedVariables false
open Go.RowKit

def setY (ys : Nat → Value) (i : Nat) (v : Value) : Nat → Value := fun j => if j = i then v else ys j
theorem setY_at (ys : Nat → Value) (i : Nat) (v : Value) : setY ys i v i = v := by simp [setY]
/-- What is known where an operation begins: which are done ('L'), and what they have left. -/
structure Done (md : Region.Mode) (ops : Array Oper) (F : Nat → (Nat → Value) → World → Prop) (D : Nat → Nat → Value → Value → Prop) (L : Nat → Prop) (ys : Nat → Value) (w : World) : Prop where
  fact : ∀ j, L j → F j ys w
  two : ∀ j k, L j → L k → j < k → D j k (ys j) (ys k)
  back : ∀ j o, L j → ops[j]? = some o → ∀ e ∈ o.after.toList, Region.binds md e = true → L e.on
  lt : ∀ j, L j → j < ops.size

section
variable {P : Program} {md : Region.Mode} {ops : Array Oper} {Q : Exit → Act → World → Prop}

def LAll (md : Region.Mode) (L : Nat → Prop) : List Edge → Prop
  | [] => True
  | e :: l => (Region.binds md e = true → L e.on) ∧ LAll md L l
theorem LAll.of {L : Nat → Prop} : ∀ {l : List Edge}, (∀ e ∈ l, Region.binds md e = true → L e.on) → LAll md L l
  | [], _ => trivial
  | e :: l, h => ⟨h e (by simp), LAll.of fun e' he' => h e' (by simp [he'])⟩

/-- One operation's step. -/
def Step2 (P : Program) (md : Region.Mode) (ops : Array Oper) (Q : Exit → Act → World → Prop) (F : Nat → (Nat → Value) → World → Prop) (D : Nat → Nat → Value → Value → Prop) (Base : World → Prop) (A : (Nat → Value) → Act) (i : Nat) (o : Oper) : Prop :=
  ∀ (L : Nat → Prop) (ys : Nat → Value) (w : World), Base w → Done md ops F D L ys w → LAll md L o.after.toList → ¬ L i → ∀ K : Act → World → Prop,
      (∀ v w', Base w' → F i (setY ys i v) w' → (∀ j, L j → F j ys w → F j ys w') → (∀ j, L j → (i < j → D i j v (ys j)) ∧ (j < i → D j i (ys j) v)) → K ((A ys).put o.dst v) w') →
      if Region.wanted o (yielded ops (A ys).tmps) = true then Oper.wp P o (A ys) w K Q else K ((A ys).put o.dst undef) w
def Steps2 (P : Program) (md : Region.Mode) (ops : Array Oper) (Q : Exit → Act → World → Prop) (F : Nat → (Nat → Value) → World → Prop) (D : Nat → Nat → Value → Value → Prop) (Base : World → Prop) (A : (Nat → Value) → Act) : Nat → List Oper → Prop
  | _, [] => True
  | i, o :: l => Step2 P md ops Q F D Base A i o ∧ Steps2 P md ops Q F D Base A (i + 1) l
theorem Steps2.nil {F : Nat → (Nat → Value) → World → Prop} {D : Nat → Nat → Value → Value → Prop} {Base : World → Prop} {A : (Nat → Value) → Act} {i : Nat} : Steps2 P md ops Q F D Base A i [] := trivial
/-- .. of one without a guard. -/
theorem Steps2.cons1 {F : Nat → (Nat → Value) → World → Prop} {D : Nat → Nat → Value → Value → Prop} {Base : World → Prop} {A : (Nat → Value) → Act} {i : Nat} {o : Oper} {l : List Oper} (k : Nat) (hk : k = i + 1) (hg : o.guard = none)
    (h : ∀ (L : Nat → Prop) (ys : Nat → Value) (w : World), Base w → Done md ops F D L ys w → LAll md L o.after.toList → ¬ L i → ∀ K : Act → World → Prop,
      (∀ v w', Base w' → F i (setY ys i v) w' → (∀ j, L j → F j ys w → F j ys w') → (∀ j, L j → (i < j → D i j v (ys j)) ∧ (j < i → D j i (ys j) v)) → K ((A ys).put o.dst v) w') → Oper.wp P o (A ys) w K Q)
    (hl : Steps2 P md ops Q F D Base A k l) : Steps2 P md ops Q F D Base A i (o :: l) :=
  ⟨fun L ys w hB hD hP hn K hK => by rw [if_pos (by simp [Region.wanted, hg])]; exact h L ys w hB hD hP hn K hK, hk ▸ hl⟩
theorem Steps2.at {F : Nat → (Nat → Value) → World → Prop} {D : Nat → Nat → Value → Value → Prop} {Base : World → Prop} {A : (Nat → Value) → Act} : ∀ {l : List Oper} {i : Nat}, Steps2 P md ops Q F D Base A i l → ∀ k o, l[k]? = some o → Step2 P md ops Q F D Base A (i + k) o
  | [], _, _, _, _, h => by simp at h
  | p :: l, i, hs, 0, o, h => by
    simp only [List.getElem?_cons_zero, Option.some.injEq] at h
    subst h
    exact hs.1
  | p :: l, i, hs, k + 1, o, h => by
    have := Steps2.at hs.2 k o (by simpa using h)
    rw [show i + 1 + k = i + (k + 1) by omega] at this
    exact this

end
end Go.Proofs.YtfkecgkfcldffaaGreatDoor
