/-
  The rule on regions that draw their order, where operations are guarded and the guards are known.
-/
import Derived.Test.YtjdmobildcgidaaDoorOrd3
namespace Go.Proofs.YtjdmobildcgidaaDoor
set_option linter.unusedSimpArgs false
set_option linter.unusedVariables false
open Go.RowKit
theorem fillA_size (l : List Oper) : ∀ (i : Nat) (ys : Nat → Value) (a : Act), (fillA l i ys a).tmps.size = a.tmps.size := by
  induction l with
  | nil => intros; rfl
  | cons o l ih =>
    intro i ys a
    simp only [fillA]
    rw [ih]
    cases o.dst <;> simp [Act.put]
theorem fillA_get (l : List Oper) (i k : Nat) (o : Oper) (ys : Nat → Value) (a : Act) (t : Tmp) (hd : apartD l = true) (hk : l[k]? = some o) (ht : o.dst = some t) (hs : t < a.tmps.size) : (fillA l i ys a).tmps[t]? = some (ys (i + k)) := by
  have h := fillA_set l i k o ys a (ys (i + k)) hd hk
  have e : (fun j => if j = i + k then ys (i + k) else ys j) = ys := by
    funext j
    by_cases hj : j = i + k
    · rw [if_pos hj, hj]
    · rw [if_neg hj]
  rw [e] at h
  rw [← h, ht]
  have hs2 : t < (fillA l i ys a).tmps.size := by rw [fillA_size]; exact hs
  simp [Act.put, hs2]
section
variable {P : Program} {md : Region.Mode} {ops : Array Oper} {Q : Exit → Act → World → Prop}
/-- Does the guard's operation fill a slot that there is? -/
def guardSlot (ops : Array Oper) (g n : Nat) : Bool := match (ops.toList[g]?).bind (·.dst) with
  | some t => decide (t < n)
  | none => false
theorem wanted_fill {o : Oper} {g : Nat} {b c : Bool} {ys : Nat → Value} {a0 : Act} (hg : o.guard = some (g, b)) (hap : apartD ops.toList = true) (hs : guardSlot ops g a0.tmps.size = true) (hy : ys g = .bool c) :
    Region.wanted o (yielded ops (fillA ops.toList 0 ys a0).tmps) = (c == b) := by
  unfold guardSlot at hs
  cases hog : ops.toList[g]? with
  | none => rw [hog] at hs; cases hs
  | some og =>
    rw [hog] at hs
    cases hd : og.dst with
    | none => simp [hd] at hs
    | some t =>
      simp [hd] at hs
      have hget := fillA_get ops.toList 0 g og ys a0 t hap hog hd hs
      rw [Nat.zero_add, hy] at hget
      have hog2 : ops[g]? = some og := by simpa using hog
      unfold Region.wanted yielded
      rw [hg]
      simp only [hog2, Option.bind_some, hd, hget]
      cases b <;> cases c <;> rfl
theorem Steps.consY {F : Nat → Value → World → Prop} {Base : World → Prop} {a0 : Act} {i : Nat} {o : Oper} {l : List Oper} (k : Nat) (hk : k = i + 1) (g : Nat) (b : Bool) (hg : o.guard = some (g, b)) (hap : apartD ops.toList = true) (hs : guardSlot ops g a0.tmps.size = true)
    (hv : ∀ (ys : Nat → Value) (w : World), Base w → Preds md F ys w o.after.toList → ys g = .bool b)
    (h : ∀ (ys : Nat → Value) (w : World), Base w → Preds md F ys w o.after.toList → ∀ K : Act → World → Prop,
      (∀ v w', Base w' → F i v w' → (∀ j u, j ≠ i → F j u w → F j u w') → K ((fillA ops.toList 0 ys a0).put o.dst v) w') → Oper.wp P o (fillA ops.toList 0 ys a0) w K Q)
    (hl : Steps P md ops Q F Base (fun ys => fillA ops.toList 0 ys a0) k l) : Steps P md ops Q F Base (fun ys => fillA ops.toList 0 ys a0) i (o :: l) :=
  ⟨fun ys w hB hP K hK => by
    rw [if_pos (by rw [wanted_fill hg hap hs (hv ys w hB hP)]; simp)]
    exact h ys w hB hP K hK, hk ▸ hl⟩
theorem Steps.consN {F : Nat → Value → World → Prop} {Base : World → Prop} {a0 : Act} {i : Nat} {o : Oper} {l : List Oper} (k : Nat) (hk : k = i + 1) (g : Nat) (b : Bool) (hg : o.guard = some (g, b)) (hap : apartD ops.toList = true) (hs : guardSlot ops g a0.tmps.size = true)
    (hv : ∀ (ys : Nat → Value) (w : World), Base w → Preds md F ys w o.after.toList → ys g = .bool (!b))
    (hF : ∀ w, F i undef w)
    (hl : Steps P md ops Q F Base (fun ys => fillA ops.toList 0 ys a0) k l) : Steps P md ops Q F Base (fun ys => fillA ops.toList 0 ys a0) i (o :: l) :=
  ⟨fun ys w hB hP K hK => by
    rw [if_neg (by rw [wanted_fill hg hap hs (hv ys w hB hP)]; cases b <;> simp)]
    exact hK undef w hB (hF w) (fun _ _ _ h => h), hk ▸ hl⟩
theorem wp_region_facts6 {id : Nat} {a : Act} {w : World} (F : Nat → Value → World → Prop) (Base : World → Prop) (hm : P.follows .mixedOrders = true)
    (hback : ((List.range ops.size).all fun i => (ops[i]?.map fun o => o.after.all fun e => !(Region.binds .any e) || decide (e.on < i)).getD true) = true) (hdst : apartD ops.toList = true)
    (hB : Base w.drew)
    (hstep : apartD ops.toList = true → Steps P .any ops Q F Base (fun ys => fillA ops.toList 0 ys a) 0 ops.toList)
    (hend : ∀ ys w, Base w → (∀ i, i < ops.size → F i (ys i) w) → Q .normal (fillA ops.toList 0 ys a) w) : (Code.region id ops true).wp P Q a w :=
  wp_region_facts3 F Base hm hback hdst hB (hstep hdst) hend
end
end Go.Proofs.YtjdmobildcgidaaDoor
