/-
  A law over any program: a region that draws its order, by what each of its operations leaves, whatever order is drawn.
  A law over any program: a region that draws its order, by facts that may name the slots of several operations, whatever order is drawn.
-/
import Derived.RegionTactic
import Derived.Test.YtaelmkkobjdgbaaZLw4
namespace Go.Proofs.Ytaelmkkobjdgbaa
set_option linter.unusedSimpArgs false
set_option linter.unusedVariables false
open Go.RowKit

/-- Every operation's slot filled. -/
def fillA : List Oper → Nat → (Nat → Value) → Act → Act
  | [], _, _, a => a
  | o :: l, i, ys, a => fillA l (i + 1) ys (a.put o.dst (ys i))

theorem put_put (a : Act) (d : Option Tmp) (u v : Value) : (a.put d u).put d v = a.put d v := by
  cases d with
  | none => rfl
  | some d => simp [Act.put]
theorem fillA_put (l : List Oper) : ∀ (i : Nat) (ys : Nat → Value) (a : Act) (d : Option Tmp) (v : Value), (∀ o ∈ l, ∀ t, d = some t → o.dst ≠ some t) → fillA l i ys (a.put d v) = (fillA l i ys a).put d v := by
  induction l with
  | nil => intros; rfl
  | cons o l ih =>
    intro i ys a d v h
    simp only [fillA]
    rw [Act.put_comm a v (ys i) (fun t ht e => h o (by simp) t ht e), ih _ _ _ _ _ fun o' ho' => h o' (by simp [ho'])]
theorem fillA_congr (l : List Oper) : ∀ (i : Nat) (ys zs : Nat → Value) (a : Act), (∀ j, i ≤ j → ys j = zs j) → fillA l i ys a = fillA l i zs a := by
  induction l with
  | nil => intros; rfl
  | cons o l ih =>
    intro i ys zs a h
    simp only [fillA]
    rw [h i (Nat.le_refl _), ih _ ys zs _ fun j hj => h j (by omega)]
/-- No slot is two operations'. -/
def apartD : List Oper → Bool
  | [] => true
  | o :: l => (match o.dst with | none => true | some t => l.all fun o' => o'.dst != some t) && apartD l
theorem apartD_cons {o : Oper} {l : List Oper} (h : apartD (o :: l) = true) : (∀ o' ∈ l, ∀ t, o.dst = some t → o'.dst ≠ some t) ∧ apartD l = true := by
  simp only [apartD, Bool.and_eq_true] at h
  refine ⟨fun o' ho' t ht => ?_, h.2⟩
  have := h.1
  rw [ht] at this
  simp at this
  exact this o' ho'
theorem fillA_set (l : List Oper) : ∀ (i k : Nat) (o : Oper) (ys : Nat → Value) (a : Act) (v : Value), apartD l = true → l[k]? = some o → (fillA l i ys a).put o.dst v = fillA l i (fun j => if j = i + k then v else ys j) a := by
  induction l with
  | nil => intro i k o ys a v _ h; simp at h
  | cons p l ih =>
    intro i k o ys a v hd hk
    obtain ⟨h1, h2⟩ := apartD_cons hd
    rcases k with _ | k
    · simp only [List.getElem?_cons_zero, Option.some.injEq] at hk
      subst hk
      simp only [fillA, Nat.add_zero, if_true]
      rw [← fillA_put l _ _ _ _ _ (fun o' ho' t ht => h1 o' ho' t ht), put_put]
      exact fillA_congr _ _ _ _ _ fun j hj => by rw [if_neg (by omega)]
    · simp only [fillA]
      rw [if_neg (by omega), ih (i + 1) k o ys _ v h2 (by simpa using hk)]
      exact fillA_congr _ _ _ _ _ fun j hj => by rw [show i + 1 + k = i + (k + 1) by omega]
theorem put_old (a : Act) (d : Option Tmp) : a.put d ((d.map fun t => a.tmps.getD t undef).getD undef) = a := by
  cases d with
  | none => rfl
  | some t =>
    simp only [Act.put, Option.map_some, Option.getD_some]
    congr 1
    apply Array.ext
    · simp
    · intro j h1 h2
      by_cases e : t = j
      · subst e; simp [Array.getElem_setIfInBounds, h2]
      · rw [Array.getElem_setIfInBounds_ne (by simpa using h1) e]
theorem fillA_old (l : List Oper) (a : Act) : ∀ i : Nat, ∃ ys, fillA l i ys a = a := by
  induction l with
  | nil => intro i; exact ⟨fun _ => undef, rfl⟩
  | cons o l ih =>
    intro i
    obtain ⟨ys, h⟩ := ih (i + 1)
    refine ⟨fun j => if j = i then (o.dst.map fun t => a.tmps.getD t undef).getD undef else ys j, ?_⟩
    simp only [fillA, if_true]
    rw [put_old, fillA_congr l (i + 1) _ ys _ fun j hj => by rw [if_neg (by omega)]]
    exact h

section
variable {P : Program} {md : Region.Mode} {ops : Array Oper} {Q : Exit → Act → World → Prop}

end
end Go.Proofs.Ytaelmkkobjdgbaa

namespace Go.Proofs.Ytaelmkkobjdgbaa
set_option linter.unusedSimpArgs false
set_option linter.unusedVariables false
open Go.RowKit

def setY (ys : Nat → Value) (i : Nat) (v : Value) : Nat → Value := fun j => if j = i then v else ys j
section
variable {P : Program} {md : Region.Mode} {ops : Array Oper} {Q : Exit → Act → World → Prop}

def LAll (md : Region.Mode) (L : Nat → Prop) : List Edge → Prop
  | [] => True
  | e :: l => (Region.binds md e = true → L e.on) ∧ LAll md L l
theorem LAll.of {L : Nat → Prop} : ∀ {l : List Edge}, (∀ e ∈ l, Region.binds md e = true → L e.on) → LAll md L l
  | [], _ => trivial
  | e :: l, h => ⟨h e (by simp), LAll.of fun e' he' => h e' (by simp [he'])⟩

end
end Go.Proofs.Ytaelmkkobjdgbaa
