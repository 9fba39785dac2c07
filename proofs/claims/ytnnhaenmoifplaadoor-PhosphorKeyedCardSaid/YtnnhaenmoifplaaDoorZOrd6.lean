/-
  A law over any program: a region that draws its order, by what each of its operations leaves, whatever order is drawn.
  A law over any program: a region that draws its order, by facts that may name the slots of several operations, whatever order is drawn.
  The rule with facts over several slots, where an operation may end what an elder one left.
  The rule on regions that draw their order, where edges that bind nothing may point on.
  The rule on regions that draw their order, where operations are guarded and the guards are known.
-/
import Derived.RegionTactic
import Derived.Test.YtnnhaenmoifplaaDoorZLw4
namespace Go.Proofs.YtnnhaenmoifplaaDoor
set_option linter.unusedSimpArgs false
set_option linter.unusedVariables false
open Go.RowKit

/-- Every operation's slot filled. -/
def fillA : List Oper → Nat → (Nat → Value) → Act → Act
  | [], _, _, a => a
  | o :: l, i, ys, a => fillA l (i + 1) ys (a.put o.dst (ys i))

theorem put_put (a : Act) (d : Option Tmp) (u v : Value) : (a.put d u).put d v = a.put d v := by
  cases d with
  | none => rfl
  | some d => simp [Act.put]
theorem fillA_put (l : List Oper) : ∀ (i : Nat) (ys : Nat → Value) (a : Act) (d : Option Tmp) (v : Value), (∀ o ∈ l, ∀ t, d = some t → o.dst ≠ some t) → fillA l i ys (a.put d v) = (fillA l i ys a).put d v := by
  induction l with
  | nil => intros; rfl
  | cons o l ih =>
    intro i ys a d v h
    simp only [fillA]
    rw [Act.put_comm a v (ys i) (fun t ht e => h o (by simp) t ht e), ih _ _ _ _ _ fun o' ho' => h o' (by simp [ho'])]
theorem fillA_congr (l : List Oper) : ∀ (i : Nat) (ys zs : Nat → Value) (a : Act), (∀ j, i ≤ j → ys j = zs j) → fillA l i ys a = fillA l i zs a := by
  induction l with
  | nil => intros; rfl
  | cons o l ih =>
    intro i ys zs a h
    simp only [fillA]
    rw [h i (Nat.le_refl _), ih _ ys zs _ fun j hj => h j (by omega)]
/-- No slot is two operations'. -/
def apartD : List Oper → Bool
  | [] => true
  | o :: l => (match o.dst with | none => true | some t => l.all fun o' => o'.dst != some t) && apartD l
theorem apartD_cons {o : Oper} {l : List Oper} (h : apartD (o :: l) = true) : (∀ o' ∈ l, ∀ t, o.dst = some t → o'.dst ≠ some t) ∧ apartD l = true := by
  simp only [apartD, Bool.and_eq_true] at h
  refine ⟨fun o' ho' t ht => ?_, h.2⟩
  have := h.1
  rw [ht] at this
  simp at this
  exact this o' ho'
theorem fillA_set (l : List Oper) : ∀ (i k : Nat) (o : Oper) (ys : Nat → Value) (a : Act) (v : Value), apartD l = true → l[k]? = some o → (fillA l i ys a).put o.dst v = fillA l i (fun j => if j = i + k then v else ys j) a := by
  induction l with
  | nil => intro i k o ys a v _ h; simp at h
  | cons p l ih =>
    intro i k o ys a v hd hk
    obtain ⟨h1, h2⟩ := apartD_cons hd
    rcases k with _ | k
    · simp only [List.getElem?_cons_zero, Option.some.injEq] at hk
      subst hk
      simp only [fillA, Nat.add_zero, if_true]
      rw [← fillA_put l _ _ _ _ _ (fun o' ho' t ht => h1 o' ho' t ht), put_put]
      exact fillA_congr _ _ _ _ _ fun j hj => by rw [if_neg (by omega)]
    · simp only [fillA]
      rw [if_neg (by omega), ih (i + 1) k o ys _ v h2 (by simpa using hk)]
      exact fillA_congr _ _ _ _ _ fun j hj => by rw [show i + 1 + k = i + (k + 1) by omega]
theorem put_old (a : Act) (d : Option Tmp) : a.put d ((d.map fun t => a.tmps.getD t undef).getD undef) = a := by
  cases d with
  | none => rfl
  | some t =>
    simp only [Act.put, Option.map_some, Option.getD_some]
    congr 1
    apply Array.ext
    · simp
    · intro j h1 h2
      by_cases e : t = j
      · subst e; simp [Array.getElem_setIfInBounds, h2]
      · rw [Array.getElem_setIfInBounds_ne (by simpa using h1) e]
theorem fillA_old (l : List Oper) (a : Act) : ∀ i : Nat, ∃ ys, fillA l i ys a = a := by
  induction l with
  | nil => intro i; exact ⟨fun _ => undef, rfl⟩
  | cons o l ih =>
    intro i
    obtain ⟨ys, h⟩ := ih (i + 1)
    refine ⟨fun j => if j = i then (o.dst.map fun t => a.tmps.getD t undef).getD undef else ys j, ?_⟩
    simp only [fillA, if_true]
    rw [put_old, fillA_congr l (i + 1) _ ys _ fun j hj => by rw [if_neg (by omega)]]
    exact h

/-- What those that stand ahead of an operation have left. -/
def Preds (md : Region.Mode) (F : Nat → Value → World → Prop) (ys : Nat → Value) (w : World) : List Edge → Prop
  | [] => True
  | e :: l => (Region.binds md e = true → F e.on (ys e.on) w) ∧ Preds md F ys w l
theorem Preds.of {md : Region.Mode} {F : Nat → Value → World → Prop} {ys : Nat → Value} {w : World} : ∀ {l : List Edge}, (∀ e ∈ l, Region.binds md e = true → F e.on (ys e.on) w) → Preds md F ys w l
  | [], _ => trivial
  | e :: l, h => ⟨h e (by simp), Preds.of fun e' he' => h e' (by simp [he'])⟩

section
variable {P : Program} {md : Region.Mode} {ops : Array Oper} {Q : Exit → Act → World → Prop}

/-- What is to be shown of each operation. -/
def Steps (P : Program) (md : Region.Mode) (ops : Array Oper) (Q : Exit → Act → World → Prop) (F : Nat → Value → World → Prop) (Base : World → Prop) (A : (Nat → Value) → Act) : Nat → List Oper → Prop
  | _, [] => True
  | i, o :: l => (∀ (ys : Nat → Value) (w : World), Base w → Preds md F ys w o.after.toList → ∀ K : Act → World → Prop,
      (∀ v w', Base w' → F i v w' → (∀ j u, j ≠ i → F j u w → F j u w') → K ((A ys).put o.dst v) w') →
      if Region.wanted o (yielded ops (A ys).tmps) = true then Oper.wp P o (A ys) w K Q else K ((A ys).put o.dst undef) w) ∧ Steps P md ops Q F Base A (i + 1) l
theorem Steps.nil {F : Nat → Value → World → Prop} {Base : World → Prop} {A : (Nat → Value) → Act} {i : Nat} : Steps P md ops Q F Base A i [] := trivial
theorem Steps.cons {F : Nat → Value → World → Prop} {Base : World → Prop} {A : (Nat → Value) → Act} {i : Nat} {o : Oper} {l : List Oper}
    (h : ∀ (ys : Nat → Value) (w : World), Base w → Preds md F ys w o.after.toList → ∀ K : Act → World → Prop,
      (∀ v w', Base w' → F i v w' → (∀ j u, j ≠ i → F j u w → F j u w') → K ((A ys).put o.dst v) w') →
      if Region.wanted o (yielded ops (A ys).tmps) = true then Oper.wp P o (A ys) w K Q else K ((A ys).put o.dst undef) w)
    (hl : Steps P md ops Q F Base A (i + 1) l) : Steps P md ops Q F Base A i (o :: l) := ⟨h, hl⟩
/-- .. of one without a guard. -/
theorem Steps.cons1 {F : Nat → Value → World → Prop} {Base : World → Prop} {A : (Nat → Value) → Act} {i : Nat} {o : Oper} {l : List Oper} (k : Nat) (hk : k = i + 1) (hg : o.guard = none)
    (h : ∀ (ys : Nat → Value) (w : World), Base w → Preds md F ys w o.after.toList → ∀ K : Act → World → Prop,
      (∀ v w', Base w' → F i v w' → (∀ j u, j ≠ i → F j u w → F j u w') → K ((A ys).put o.dst v) w') → Oper.wp P o (A ys) w K Q)
    (hl : Steps P md ops Q F Base A k l) : Steps P md ops Q F Base A i (o :: l) :=
  ⟨fun ys w hB hP K hK => by rw [if_pos (by simp [Region.wanted, hg])]; exact h ys w hB hP K hK, hk ▸ hl⟩
theorem Steps.at {F : Nat → Value → World → Prop} {Base : World → Prop} {A : (Nat → Value) → Act} : ∀ {l : List Oper} {i : Nat}, Steps P md ops Q F Base A i l → ∀ k o, l[k]? = some o → ∀ (ys : Nat → Value) (w : World), Base w → Preds md F ys w o.after.toList → ∀ K : Act → World → Prop,
      (∀ v w', Base w' → F (i + k) v w' → (∀ j u, j ≠ i + k → F j u w → F j u w') → K ((A ys).put o.dst v) w') →
      if Region.wanted o (yielded ops (A ys).tmps) = true then Oper.wp P o (A ys) w K Q else K ((A ys).put o.dst undef) w
  | [], _, _, _, _, h => by simp at h
  | p :: l, i, hs, 0, o, h => by
    simp only [List.getElem?_cons_zero, Option.some.injEq] at h
    subst h
    exact hs.1
  | p :: l, i, hs, k + 1, o, h => by
    have := Steps.at hs.2 k o (by simpa using h)
    rw [show i + 1 + k = i + (k + 1) by omega] at this
    exact this

theorem wpAny_facts_go (F : Nat → Value → World → Prop) (Base : World → Prop) (a0 : Act) (hback : ((List.range ops.size).all fun i => (ops[i]?.map fun o => o.after.all fun e => decide (e.on < i)).getD true) = true) (hdst : apartD ops.toList = true)
    (hstep : Steps P md ops Q F Base (fun ys => fillA ops.toList 0 ys a0) 0 ops.toList)
    (hend : ∀ ys w, Base w → (∀ i, i < ops.size → F i (ys i) w) → Q .normal (fillA ops.toList 0 ys a0) w) :
    ∀ (fuel : Nat) (listed : Array Bool) (ys : Nat → Value) (w : World), listed.size = ops.size → listed.toList.count false ≤ fuel → Base w → (∀ i, listed[i]? = some true → F i (ys i) w) →
      wpAny P md ops Q fuel listed (fillA ops.toList 0 ys a0) w := by
  have hfull : ∀ (listed : Array Bool), listed.size = ops.size → Region.ready md ops listed = [] → ∀ i, i < ops.size → listed[i]? = some true := by
    intro listed hsz hr i
    induction i using Nat.strongRecOn with
    | ind i ih =>
      intro hi
      rcases hb : listed[i]'(by omega) with _ | _
      · exfalso
        have : i ∈ Region.ready md ops listed := by
          unfold Region.ready
          rw [List.mem_filter]
          refine ⟨by simpa using hi, ?_⟩
          have e1 : listed.getD i true = false := by simp [Array.getD, hsz, hi, hb]
          have e2 : ops[i]? = some ops[i] := by simp [hi]
          rw [e1, e2]
          simp only [Bool.not_false, Bool.true_and, Option.map_some, Option.getD_some, Array.all_eq_true]
          intro k hk
          have hbk := List.all_eq_true.1 hback i (by simpa using hi)
          rw [e2] at hbk
          simp only [Option.map_some, Option.getD_some, Array.all_eq_true] at hbk
          have hlt := of_decide_eq_true (hbk k hk)
          have := ih _ hlt (by omega)
          simp [Array.getD_eq_getD_getElem?, this]
        rw [hr] at this
        cases this
      · simp [hsz, hi, hb]
  intro fuel
  induction fuel with
  | zero =>
    intro listed ys w hsz hc hB hF
    have hall : ∀ i, i < ops.size → listed[i]? = some true := by
      intro i hi
      have h0 : listed.toList.count false = 0 := by omega
      rw [List.count_eq_zero] at h0
      rcases hb : listed[i]'(by omega) with _ | _
      · exact absurd (by rw [← hb]; exact Array.getElem_mem_toList _) h0
      · simp [hsz, hi, hb]
    refine ⟨?_, hend ys w hB fun i hi => hF i (hall i hi)⟩
    unfold Region.ready
    rw [List.filter_eq_nil_iff]
    intro i hi
    have hi' : i < ops.size := by simpa using hi
    have : listed.getD i true = true := by simp [Array.getD_eq_getD_getElem?, hall i hi']
    simp [this]
  | succ fuel ih =>
    intro listed ys w hsz hc hB hF
    refine ⟨fun hr => hend ys w hB fun i hi => hF i (hfull listed hsz hr i hi), fun i hi => ?_⟩
    unfold Region.ready at hi
    rw [List.mem_filter] at hi
    obtain ⟨hi1, hi2⟩ := hi
    have hi' : i < ops.size := by simpa using hi1
    have e2 : ops[i]? = some ops[i] := by simp [hi']
    rw [e2] at hi2
    simp only [Option.map_some, Option.getD_some, Bool.and_eq_true, Bool.not_eq_true'] at hi2
    obtain ⟨hf, ha⟩ := hi2
    refine wpOp_step e2 fun K' hK' => ?_
    have hl : ops.toList[i]? = some ops[i] := by simp [hi']
    have := Steps.at hstep i ops[i] hl ys w hB (Preds.of fun e he hb => hF _ ?_) K' ?_
    · exact this
    · have := Array.all_eq_true'.1 ha e (by simpa using he)
      rw [hb] at this
      simp only [Bool.not_true, Bool.false_or, Array.getD_eq_getD_getElem?] at this
      rcases hx : listed[e.on]? with _ | b
      · rw [hx] at this; cases this
      · rw [hx] at this; simp at this; rw [this]
    · intro v w' hB' hFi hkeep
      rw [Nat.zero_add] at hFi hkeep
      refine hK' _ _ ?_
      rw [fillA_set _ _ i _ ys a0 v hdst hl]
      refine ih _ _ _ (by simpa using hsz) ?_ hB' ?_
      · have hlt : i < listed.size := by omega
        have hfi : listed[i] = false := by simpa [Array.getD, hlt] using hf
        have : (listed.setIfInBounds i true).toList.count false + 1 = listed.toList.count false := by
          rw [Array.toList_setIfInBounds]
          have h1 : i < listed.toList.length := by simpa using hlt
          rw [List.count_set h1]
          have h2 : listed.toList[i] = false := by simpa using hfi
          have h3 : 0 < listed.toList.count false := List.count_pos_iff.2 (by rw [← h2]; exact List.getElem_mem h1)
          rw [h2, if_pos (show (false == false) = true from rfl), if_neg (by decide)]
          omega
        omega
      · intro j hj
        by_cases e : j = i
        · subst e; simpa using hFi
        · rw [if_neg (by omega)]
          refine hkeep j _ e (hF j ?_)
          rw [Array.getElem?_setIfInBounds_ne (by omega)] at hj
          exact hj

theorem wp_region_facts {id : Nat} {a : Act} {w : World} (F : Nat → Value → World → Prop) (Base : World → Prop) (hm : P.follows .mixedOrders = true)
    (hback : ((List.range ops.size).all fun i => (ops[i]?.map fun o => o.after.all fun e => decide (e.on < i)).getD true) = true) (hdst : apartD ops.toList = true)
    (hB : Base w.drew)
    (hstep : Steps P .any ops Q F Base (fun ys => fillA ops.toList 0 ys a) 0 ops.toList)
    (hend : ∀ ys w, Base w → (∀ i, i < ops.size → F i (ys i) w) → Q .normal (fillA ops.toList 0 ys a) w) : (Code.region id ops true).wp P Q a w := by
  refine wp_region_any hm ?_
  obtain ⟨ys, h⟩ := fillA_old ops.toList a 0
  have := wpAny_facts_go (P := P) (md := .any) (Q := Q) F Base a hback hdst hstep hend ops.size (Array.replicate ops.size false) ys w.drew (by simp) (by simp) hB (fun i hi => by
    rcases Nat.lt_or_ge i ops.size with h1 | h1
    · simp [h1] at hi
    · rw [Array.getElem?_eq_none (by simpa using h1)] at hi; cases hi)
  rw [h] at this
  exact this
end
end Go.Proofs.YtnnhaenmoifplaaDoor

namespace Go.Proofs.YtnnhaenmoifplaaDoor
set_option linter.unusedSimpArgs false
set_option linter.unusedVariables false
open Go.RowKit

def setY (ys : Nat → Value) (i : Nat) (v : Value) : Nat → Value := fun j => if j = i then v else ys j
theorem setY_at (ys : Nat → Value) (i : Nat) (v : Value) : setY ys i v i = v := by simp [setY]
section
variable {P : Program} {md : Region.Mode} {ops : Array Oper} {Q : Exit → Act → World → Prop}

def LAll (md : Region.Mode) (L : Nat → Prop) : List Edge → Prop
  | [] => True
  | e :: l => (Region.binds md e = true → L e.on) ∧ LAll md L l
theorem LAll.of {L : Nat → Prop} : ∀ {l : List Edge}, (∀ e ∈ l, Region.binds md e = true → L e.on) → LAll md L l
  | [], _ => trivial
  | e :: l, h => ⟨h e (by simp), LAll.of fun e' he' => h e' (by simp [he'])⟩

end
end Go.Proofs.YtnnhaenmoifplaaDoor

namespace Go.Proofs.YtnnhaenmoifplaaDoor
set_option linter.unusedSimpArgs false
set_option linter.unusedVariables false
open Go.RowKit

/-- What is known where an operation begins: which are done ('L'), and what they have left. -/
structure Done7 (md : Region.Mode) (ops : Array Oper) (F : Nat → (Nat → Value) → World → Prop) (D : Nat → Nat → Value → Value → Prop) (dead : Nat → Nat → Bool) (G : Nat → World → Prop) (L : Nat → Prop) (ys : Nat → Value) (w : World) : Prop where
  fact : ∀ j, L j → (∀ i, L i → dead i j = false) → F j ys w
  two : ∀ j k, L j → L k → j < k → D j k (ys j) (ys k)
  back : ∀ j o, L j → ops[j]? = some o → ∀ e ∈ o.after.toList, Region.binds md e = true → L e.on
  lt : ∀ j, L j → j < ops.size
  yet : ∀ j, ¬ L j → G j w

section
variable {P : Program} {md : Region.Mode} {ops : Array Oper} {Q : Exit → Act → World → Prop}

/-- One operation's step. -/
def Step7 (P : Program) (md : Region.Mode) (ops : Array Oper) (Q : Exit → Act → World → Prop) (F : Nat → (Nat → Value) → World → Prop) (D : Nat → Nat → Value → Value → Prop) (dead : Nat → Nat → Bool) (G : Nat → World → Prop) (Base : World → Prop) (A : (Nat → Value) → Act) (i : Nat) (o : Oper) : Prop :=
  ∀ (L : Nat → Prop) (ys : Nat → Value) (w : World), Base w → Done7 md ops F D dead G L ys w → LAll md L o.after.toList → ¬ L i → ∀ K : Act → World → Prop,
      (∀ v w', Base w' → F i (setY ys i v) w' → (∀ j, L j → dead i j = false → F j ys w → F j ys w') → (∀ j, ¬ L j → j ≠ i → G j w → G j w') → (∀ j, L j → (i < j → D i j v (ys j)) ∧ (j < i → D j i (ys j) v)) → K ((A ys).put o.dst v) w') →
      if Region.wanted o (yielded ops (A ys).tmps) = true then Oper.wp P o (A ys) w K Q else K ((A ys).put o.dst undef) w
def Steps7 (P : Program) (md : Region.Mode) (ops : Array Oper) (Q : Exit → Act → World → Prop) (F : Nat → (Nat → Value) → World → Prop) (D : Nat → Nat → Value → Value → Prop) (dead : Nat → Nat → Bool) (G : Nat → World → Prop) (Base : World → Prop) (A : (Nat → Value) → Act) : Nat → List Oper → Prop
  | _, [] => True
  | i, o :: l => Step7 P md ops Q F D dead G Base A i o ∧ Steps7 P md ops Q F D dead G Base A (i + 1) l
theorem Steps7.nil {F : Nat → (Nat → Value) → World → Prop} {D : Nat → Nat → Value → Value → Prop} {dead : Nat → Nat → Bool} {G : Nat → World → Prop} {Base : World → Prop} {A : (Nat → Value) → Act} {i : Nat} : Steps7 P md ops Q F D dead G Base A i [] := trivial
/-- .. of one without a guard. -/
theorem Steps7.cons1 {F : Nat → (Nat → Value) → World → Prop} {D : Nat → Nat → Value → Value → Prop} {dead : Nat → Nat → Bool} {G : Nat → World → Prop} {Base : World → Prop} {A : (Nat → Value) → Act} {i : Nat} {o : Oper} {l : List Oper} (k : Nat) (hk : k = i + 1) (hg : o.guard = none)
    (h : ∀ (L : Nat → Prop) (ys : Nat → Value) (w : World), Base w → Done7 md ops F D dead G L ys w → LAll md L o.after.toList → ¬ L i → ∀ K : Act → World → Prop,
      (∀ v w', Base w' → F i (setY ys i v) w' → (∀ j, L j → dead i j = false → F j ys w → F j ys w') → (∀ j, ¬ L j → j ≠ i → G j w → G j w') → (∀ j, L j → (i < j → D i j v (ys j)) ∧ (j < i → D j i (ys j) v)) → K ((A ys).put o.dst v) w') → Oper.wp P o (A ys) w K Q)
    (hl : Steps7 P md ops Q F D dead G Base A k l) : Steps7 P md ops Q F D dead G Base A i (o :: l) :=
  ⟨fun L ys w hB hD hP hn K hK => by rw [if_pos (by simp [Region.wanted, hg])]; exact h L ys w hB hD hP hn K hK, hk ▸ hl⟩
theorem Steps7.at {F : Nat → (Nat → Value) → World → Prop} {D : Nat → Nat → Value → Value → Prop} {dead : Nat → Nat → Bool} {G : Nat → World → Prop} {Base : World → Prop} {A : (Nat → Value) → Act} : ∀ {l : List Oper} {i : Nat}, Steps7 P md ops Q F D dead G Base A i l → ∀ k o, l[k]? = some o → Step7 P md ops Q F D dead G Base A (i + k) o
  | [], _, _, _, _, h => by simp at h
  | p :: l, i, hs, 0, o, h => by
    simp only [List.getElem?_cons_zero, Option.some.injEq] at h
    subst h
    exact hs.1
  | p :: l, i, hs, k + 1, o, h => by
    have := Steps7.at hs.2 k o (by simpa using h)
    rw [show i + 1 + k = i + (k + 1) by omega] at this
    exact this

theorem wpAny_facts7_go (F : Nat → (Nat → Value) → World → Prop) (D : Nat → Nat → Value → Value → Prop) (dead : Nat → Nat → Bool) (G : Nat → World → Prop) (Base : World → Prop) (a0 : Act) (hback : ((List.range ops.size).all fun i => (ops[i]?.map fun o => o.after.all fun e => !(Region.binds md e) || decide (e.on < i)).getD true) = true) (hdst : apartD ops.toList = true)
    (hcong : ∀ j o, ops[j]? = some o → ∀ ys zs w, ys j = zs j → (∀ e ∈ o.after.toList, Region.binds md e = true → ys e.on = zs e.on) → F j ys w → F j zs w)
    (hstep : Steps7 P md ops Q F D dead G Base (fun ys => fillA ops.toList 0 ys a0) 0 ops.toList)
    (hend : ∀ ys w, Base w → (∀ i, i < ops.size → (∀ k, k < ops.size → dead k i = false) → F i ys w) → (∀ i j, i < j → j < ops.size → D i j (ys i) (ys j)) → Q .normal (fillA ops.toList 0 ys a0) w) :
    ∀ (fuel : Nat) (listed : Array Bool) (ys : Nat → Value) (w : World), listed.size = ops.size → listed.toList.count false ≤ fuel → Base w → Done7 md ops F D dead G (fun i => listed[i]? = some true) ys w →
      wpAny P md ops Q fuel listed (fillA ops.toList 0 ys a0) w := by
  have hfull : ∀ (listed : Array Bool), listed.size = ops.size → Region.ready md ops listed = [] → ∀ i, i < ops.size → listed[i]? = some true := by
    intro listed hsz hr i
    induction i using Nat.strongRecOn with
    | ind i ih =>
      intro hi
      rcases hb : listed[i]'(by omega) with _ | _
      · exfalso
        have : i ∈ Region.ready md ops listed := by
          unfold Region.ready
          rw [List.mem_filter]
          refine ⟨by simpa using hi, ?_⟩
          have e1 : listed.getD i true = false := by simp [Array.getD, hsz, hi, hb]
          have e2 : ops[i]? = some ops[i] := by simp [hi]
          rw [e1, e2]
          simp only [Bool.not_false, Bool.true_and, Option.map_some, Option.getD_some, Array.all_eq_true]
          intro k hk
          have hbk := List.all_eq_true.1 hback i (by simpa using hi)
          rw [e2] at hbk
          simp only [Option.map_some, Option.getD_some, Array.all_eq_true] at hbk
          have hlt := hbk k hk
          rw [Bool.or_eq_true] at hlt ⊢
          rcases hlt with hlt | hlt
          · exact .inl hlt
          · right
            have := ih _ (of_decide_eq_true hlt) (by have := of_decide_eq_true hlt; omega)
            simp [Array.getD_eq_getD_getElem?, this]
        rw [hr] at this
        cases this
      · simp [hsz, hi, hb]
  intro fuel
  induction fuel with
  | zero =>
    intro listed ys w hsz hc hB hD
    have hall : ∀ i, i < ops.size → listed[i]? = some true := by
      intro i hi
      have h0 : listed.toList.count false = 0 := by omega
      rw [List.count_eq_zero] at h0
      rcases hb : listed[i]'(by omega) with _ | _
      · exact absurd (by rw [← hb]; exact Array.getElem_mem_toList _) h0
      · simp [hsz, hi, hb]
    refine ⟨?_, hend ys w hB (fun i hi hk => hD.fact i (hall i hi) fun k hl => hk k (hD.lt k hl)) fun i j hij hj => hD.two i j (hall i (by omega)) (hall j hj) hij⟩
    unfold Region.ready
    rw [List.filter_eq_nil_iff]
    intro i hi
    have hi' : i < ops.size := by simpa using hi
    have : listed.getD i true = true := by simp [Array.getD_eq_getD_getElem?, hall i hi']
    simp [this]
  | succ fuel ih =>
    intro listed ys w hsz hc hB hD
    refine ⟨fun hr => hend ys w hB (fun i hi hk => hD.fact i (hfull listed hsz hr i hi) fun k hl => hk k (hD.lt k hl)) fun i j hij hj => hD.two i j (hfull listed hsz hr i (by omega)) (hfull listed hsz hr j hj) hij, fun i hi => ?_⟩
    unfold Region.ready at hi
    rw [List.mem_filter] at hi
    obtain ⟨hi1, hi2⟩ := hi
    have hi' : i < ops.size := by simpa using hi1
    have e2 : ops[i]? = some ops[i] := by simp [hi']
    rw [e2] at hi2
    simp only [Option.map_some, Option.getD_some, Bool.and_eq_true, Bool.not_eq_true'] at hi2
    obtain ⟨hf, ha⟩ := hi2
    have hlt : i < listed.size := by omega
    have hfi : listed[i] = false := by simpa [Array.getD, hlt] using hf
    have hni : ¬ (listed[i]? = some true) := by simp [hlt, hfi]
    have hpre : ∀ e ∈ ops[i].after.toList, Region.binds md e = true → listed[e.on]? = some true := by
      intro e he hb
      have := Array.all_eq_true'.1 ha e (by simpa using he)
      rw [hb] at this
      simp only [Bool.not_true, Bool.false_or, Array.getD_eq_getD_getElem?] at this
      rcases hx : listed[e.on]? with _ | b
      · rw [hx] at this; cases this
      · rw [hx] at this; simp at this; rw [this]
    refine wpOp_step e2 fun K' hK' => ?_
    have hl : ops.toList[i]? = some ops[i] := by simp [hi']
    have hst := Steps7.at hstep i ops[i] hl
    rw [Nat.zero_add] at hst
    have := hst (fun i => listed[i]? = some true) ys w hB hD (LAll.of hpre) hni K' ?_
    · exact this
    · intro v w' hB' hFi hkeep hyet hD2
      refine hK' _ _ ?_
      rw [fillA_set _ _ i _ ys a0 v hdst hl, Nat.zero_add]
      have hset : ∀ j, (listed.setIfInBounds i true)[j]? = some true ↔ (j = i ∨ listed[j]? = some true) := by
        intro j
        by_cases e : j = i
        · subst e; simp [hlt]
        · rw [Array.getElem?_setIfInBounds_ne (by omega)]; simp [e]
      refine ih _ _ _ (by simpa using hsz) ?_ hB' ?_
      · have : (listed.setIfInBounds i true).toList.count false + 1 = listed.toList.count false := by
          rw [Array.toList_setIfInBounds]
          have h1 : i < listed.toList.length := by simpa using hlt
          rw [List.count_set h1]
          have h2 : listed.toList[i] = false := by simpa using hfi
          have h3 : 0 < listed.toList.count false := List.count_pos_iff.2 (by rw [← h2]; exact List.getElem_mem h1)
          rw [h2, if_pos (show (false == false) = true from rfl), if_neg (by decide)]
          omega
        omega
      · refine ⟨fun j hj hal => ?_, fun j k hj hk hjk => ?_, fun j o hj ho e he hb => ?_, fun j hj => ?_, fun j hj => ?_⟩
        · rcases (hset j).1 hj with rfl | hj'
          · exact hFi
          · have hji : j ≠ i := by rintro rfl; exact hni hj'
            have hjs := hD.lt j hj'
            refine hcong j ops[j] (by simp [hjs]) ys _ w' (by simp [hji]) (fun e he hb => ?_) (hkeep j hj' (hal i ((hset i).2 (.inl rfl))) (hD.fact j hj' fun k hk => hal k ((hset k).2 (.inr hk))))
            have := hD.back j ops[j] hj' (by simp [hjs]) e he hb
            have hei : e.on ≠ i := by intro x; rw [x] at this; exact hni this
            simp [hei]
        · rcases (hset j).1 hj with rfl | hj'
          · rcases (hset k).1 hk with rfl | hk'
            · omega
            · have hkj : k ≠ j := by omega
              simpa [hkj] using (hD2 k hk').1 hjk
          · rcases (hset k).1 hk with rfl | hk'
            · have hkj : j ≠ k := by omega
              simpa [hkj] using (hD2 j hj').2 hjk
            · have h1 : j ≠ i := by rintro rfl; exact hni hj'
              have h2 : k ≠ i := by rintro rfl; exact hni hk'
              simpa [h1, h2] using hD.two j k hj' hk' hjk
        · rcases (hset j).1 hj with rfl | hj'
          · rw [e2] at ho; injection ho with ho; subst ho
            exact (hset _).2 (.inr (hpre e he hb))
          · exact (hset _).2 (.inr (hD.back j o hj' ho e he hb))
        · rcases (hset j).1 hj with rfl | hj'
          · exact hi'
          · exact hD.lt j hj'
        · have h1 : ¬ listed[j]? = some true := fun h => hj ((hset j).2 (.inr h))
          exact hyet j h1 (fun e => hj ((hset j).2 (.inl e))) (hD.yet j h1)

theorem wp_region_facts7 {id : Nat} {a : Act} {w : World} (F : Nat → (Nat → Value) → World → Prop) (D : Nat → Nat → Value → Value → Prop) (dead : Nat → Nat → Bool) (G : Nat → World → Prop) (Base : World → Prop) (hm : P.follows .mixedOrders = true)
    (hback : ((List.range ops.size).all fun i => (ops[i]?.map fun o => o.after.all fun e => !(Region.binds .any e) || decide (e.on < i)).getD true) = true) (hdst : apartD ops.toList = true)
    (hcong : ∀ j o, ops[j]? = some o → ∀ ys zs w, ys j = zs j → (∀ e ∈ o.after.toList, Region.binds .any e = true → ys e.on = zs e.on) → F j ys w → F j zs w)
    (hB : Base w.drew) (hG : ∀ j, G j w.drew)
    (hstep : Steps7 P .any ops Q F D dead G Base (fun ys => fillA ops.toList 0 ys a) 0 ops.toList)
    (hend : ∀ ys w, Base w → (∀ i, i < ops.size → (∀ k, k < ops.size → dead k i = false) → F i ys w) → (∀ i j, i < j → j < ops.size → D i j (ys i) (ys j)) → Q .normal (fillA ops.toList 0 ys a) w) : (Code.region id ops true).wp P Q a w := by
  refine wp_region_any hm ?_
  obtain ⟨ys, h⟩ := fillA_old ops.toList a 0
  have he : ∀ i : Nat, ¬ ((Array.replicate ops.size false)[i]? = some true) := by
    intro i hi
    rcases Nat.lt_or_ge i ops.size with h1 | h1
    · simp [h1] at hi
    · rw [Array.getElem?_eq_none (by simpa using h1)] at hi; cases hi
  have hd0 : Done7 .any ops F D dead G (fun i : Nat => (Array.replicate ops.size false)[i]? = some true) ys w.drew :=
    ⟨fun i hi _ => absurd hi (he i), fun i _ hi _ _ => absurd hi (he i), fun i _ hi _ _ _ _ => absurd hi (he i), fun i hi => absurd hi (he i), fun j _ => hG j⟩
  have := wpAny_facts7_go (P := P) (md := .any) (Q := Q) F D dead G Base a hback hdst hcong hstep hend ops.size (Array.replicate ops.size false) ys w.drew (by simp) (by simp) hB
    hd0
  rw [h] at this
  exact this
end
end Go.Proofs.YtnnhaenmoifplaaDoor

namespace Go.Proofs.YtnnhaenmoifplaaDoor
set_option linter.unusedSimpArgs false
set_option linter.unusedVariables false
open Go.RowKit
section
variable {P : Program} {md : Region.Mode} {ops : Array Oper} {Q : Exit → Act → World → Prop}
theorem wpAny_facts3_go (F : Nat → Value → World → Prop) (Base : World → Prop) (a0 : Act) (hback : ((List.range ops.size).all fun i => (ops[i]?.map fun o => o.after.all fun e => !(Region.binds md e) || decide (e.on < i)).getD true) = true) (hdst : apartD ops.toList = true)
    (hstep : Steps P md ops Q F Base (fun ys => fillA ops.toList 0 ys a0) 0 ops.toList)
    (hend : ∀ ys w, Base w → (∀ i, i < ops.size → F i (ys i) w) → Q .normal (fillA ops.toList 0 ys a0) w) :
    ∀ (fuel : Nat) (listed : Array Bool) (ys : Nat → Value) (w : World), listed.size = ops.size → listed.toList.count false ≤ fuel → Base w → (∀ i, listed[i]? = some true → F i (ys i) w) →
      wpAny P md ops Q fuel listed (fillA ops.toList 0 ys a0) w := by
  have hfull : ∀ (listed : Array Bool), listed.size = ops.size → Region.ready md ops listed = [] → ∀ i, i < ops.size → listed[i]? = some true := by
    intro listed hsz hr i
    induction i using Nat.strongRecOn with
    | ind i ih =>
      intro hi
      rcases hb : listed[i]'(by omega) with _ | _
      · exfalso
        have : i ∈ Region.ready md ops listed := by
          unfold Region.ready
          rw [List.mem_filter]
          refine ⟨by simpa using hi, ?_⟩
          have e1 : listed.getD i true = false := by simp [Array.getD, hsz, hi, hb]
          have e2 : ops[i]? = some ops[i] := by simp [hi]
          rw [e1, e2]
          simp only [Bool.not_false, Bool.true_and, Option.map_some, Option.getD_some, Array.all_eq_true]
          intro k hk
          have hbk := List.all_eq_true.1 hback i (by simpa using hi)
          rw [e2] at hbk
          simp only [Option.map_some, Option.getD_some, Array.all_eq_true] at hbk
          have hlt := hbk k hk
          rw [Bool.or_eq_true] at hlt ⊢
          rcases hlt with hlt | hlt
          · exact .inl hlt
          · right
            have := ih _ (of_decide_eq_true hlt) (by have := of_decide_eq_true hlt; omega)
            simp [Array.getD_eq_getD_getElem?, this]
        rw [hr] at this
        cases this
      · simp [hsz, hi, hb]
  intro fuel
  induction fuel with
  | zero =>
    intro listed ys w hsz hc hB hF
    have hall : ∀ i, i < ops.size → listed[i]? = some true := by
      intro i hi
      have h0 : listed.toList.count false = 0 := by omega
      rw [List.count_eq_zero] at h0
      rcases hb : listed[i]'(by omega) with _ | _
      · exact absurd (by rw [← hb]; exact Array.getElem_mem_toList _) h0
      · simp [hsz, hi, hb]
    refine ⟨?_, hend ys w hB fun i hi => hF i (hall i hi)⟩
    unfold Region.ready
    rw [List.filter_eq_nil_iff]
    intro i hi
    have hi' : i < ops.size := by simpa using hi
    have : listed.getD i true = true := by simp [Array.getD_eq_getD_getElem?, hall i hi']
    simp [this]
  | succ fuel ih =>
    intro listed ys w hsz hc hB hF
    refine ⟨fun hr => hend ys w hB fun i hi => hF i (hfull listed hsz hr i hi), fun i hi => ?_⟩
    unfold Region.ready at hi
    rw [List.mem_filter] at hi
    obtain ⟨hi1, hi2⟩ := hi
    have hi' : i < ops.size := by simpa using hi1
    have e2 : ops[i]? = some ops[i] := by simp [hi']
    rw [e2] at hi2
    simp only [Option.map_some, Option.getD_some, Bool.and_eq_true, Bool.not_eq_true'] at hi2
    obtain ⟨hf, ha⟩ := hi2
    refine wpOp_step e2 fun K' hK' => ?_
    have hl : ops.toList[i]? = some ops[i] := by simp [hi']
    have := Steps.at hstep i ops[i] hl ys w hB (Preds.of fun e he hb => hF _ ?_) K' ?_
    · exact this
    · have := Array.all_eq_true'.1 ha e (by simpa using he)
      rw [hb] at this
      simp only [Bool.not_true, Bool.false_or, Array.getD_eq_getD_getElem?] at this
      rcases hx : listed[e.on]? with _ | b
      · rw [hx] at this; cases this
      · rw [hx] at this; simp at this; rw [this]
    · intro v w' hB' hFi hkeep
      rw [Nat.zero_add] at hFi hkeep
      refine hK' _ _ ?_
      rw [fillA_set _ _ i _ ys a0 v hdst hl]
      refine ih _ _ _ (by simpa using hsz) ?_ hB' ?_
      · have hlt : i < listed.size := by omega
        have hfi : listed[i] = false := by simpa [Array.getD, hlt] using hf
        have : (listed.setIfInBounds i true).toList.count false + 1 = listed.toList.count false := by
          rw [Array.toList_setIfInBounds]
          have h1 : i < listed.toList.length := by simpa using hlt
          rw [List.count_set h1]
          have h2 : listed.toList[i] = false := by simpa using hfi
          have h3 : 0 < listed.toList.count false := List.count_pos_iff.2 (by rw [← h2]; exact List.getElem_mem h1)
          rw [h2, if_pos (show (false == false) = true from rfl), if_neg (by decide)]
          omega
        omega
      · intro j hj
        by_cases e : j = i
        · subst e; simpa using hFi
        · rw [if_neg (by omega)]
          refine hkeep j _ e (hF j ?_)
          rw [Array.getElem?_setIfInBounds_ne (by omega)] at hj
          exact hj

theorem wp_region_facts3 {id : Nat} {a : Act} {w : World} (F : Nat → Value → World → Prop) (Base : World → Prop) (hm : P.follows .mixedOrders = true)
    (hback : ((List.range ops.size).all fun i => (ops[i]?.map fun o => o.after.all fun e => !(Region.binds .any e) || decide (e.on < i)).getD true) = true) (hdst : apartD ops.toList = true)
    (hB : Base w.drew)
    (hstep : Steps P .any ops Q F Base (fun ys => fillA ops.toList 0 ys a) 0 ops.toList)
    (hend : ∀ ys w, Base w → (∀ i, i < ops.size → F i (ys i) w) → Q .normal (fillA ops.toList 0 ys a) w) : (Code.region id ops true).wp P Q a w := by
  refine wp_region_any hm ?_
  obtain ⟨ys, h⟩ := fillA_old ops.toList a 0
  have := wpAny_facts3_go (P := P) (md := .any) (Q := Q) F Base a hback hdst hstep hend ops.size (Array.replicate ops.size false) ys w.drew (by simp) (by simp) hB (fun i hi => by
    rcases Nat.lt_or_ge i ops.size with h1 | h1
    · simp [h1] at hi
    · rw [Array.getElem?_eq_none (by simpa using h1)] at hi; cases hi)
  rw [h] at this
  exact this
end
end Go.Proofs.YtnnhaenmoifplaaDoor

namespace Go.Proofs.YtnnhaenmoifplaaDoor
set_option linter.unusedSimpArgs false
set_option linter.unusedVariables false
open Go.RowKit
section
variable {P : Program} {md : Region.Mode} {ops : Array Oper} {Q : Exit → Act → World → Prop}
theorem wp_region_facts6 {id : Nat} {a : Act} {w : World} (F : Nat → Value → World → Prop) (Base : World → Prop) (hm : P.follows .mixedOrders = true)
    (hback : ((List.range ops.size).all fun i => (ops[i]?.map fun o => o.after.all fun e => !(Region.binds .any e) || decide (e.on < i)).getD true) = true) (hdst : apartD ops.toList = true)
    (hB : Base w.drew)
    (hstep : apartD ops.toList = true → Steps P .any ops Q F Base (fun ys => fillA ops.toList 0 ys a) 0 ops.toList)
    (hend : ∀ ys w, Base w → (∀ i, i < ops.size → F i (ys i) w) → Q .normal (fillA ops.toList 0 ys a) w) : (Code.region id ops true).wp P Q a w :=
  wp_region_facts3 F Base hm hback hdst hB (hstep hdst) hend
end
end Go.Proofs.YtnnhaenmoifplaaDoor
