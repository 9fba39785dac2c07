/-
  The rule on regions that draw their order, with what holds as long as an operation is not done.
-/
import Derived.Test.YtjdmobildcgidaaDoorOrd
namespace Go.Proofs.YtjdmobildcgidaaDoor
set_option linter.unusedSimpArgs false
set_option linter.unusedVariables false
open Go.RowKit
section
variable {P : Program} {md : Region.Mode} {ops : Array Oper} {Q : Exit → Act → World → Prop}
/-- What is to be shown of each operation; `G i` holds as long as operation `i` is not done; `anc i` are done ahead of it. -/
def Steps4 (P : Program) (md : Region.Mode) (ops : Array Oper) (Q : Exit → Act → World → Prop) (F : Nat → Value → World → Prop) (Base : World → Prop) (G : Nat → World → Prop) (anc : Nat → List Nat) (A : (Nat → Value) → Act) : Nat → List Oper → Prop
  | _, [] => True
  | i, o :: l => (∀ (ys : Nat → Value) (w : World), Base w → G i w → Preds md F ys w o.after.toList → ∀ K : Act → World → Prop,
      (∀ v w', Base w' → F i v w' → (∀ j u, j ≠ i → F j u w → F j u w') → (∀ j, (anc i).contains j = false → G j w → G j w') → K ((A ys).put o.dst v) w') →
      if Region.wanted o (yielded ops (A ys).tmps) = true then Oper.wp P o (A ys) w K Q else K ((A ys).put o.dst undef) w) ∧ Steps4 P md ops Q F Base G anc A (i + 1) l
theorem Steps4.nil {F : Nat → Value → World → Prop} {Base : World → Prop} {G : Nat → World → Prop} {anc : Nat → List Nat} {A : (Nat → Value) → Act} {i : Nat} : Steps4 P md ops Q F Base G anc A i [] := trivial
/-- .. of one without a guard. -/
theorem Steps4.cons1 {F : Nat → Value → World → Prop} {Base : World → Prop} {G : Nat → World → Prop} {anc : Nat → List Nat} {A : (Nat → Value) → Act} {i : Nat} {o : Oper} {l : List Oper} (k : Nat) (hk : k = i + 1) (hg : o.guard = none)
    (h : ∀ (ys : Nat → Value) (w : World), Base w → G i w → Preds md F ys w o.after.toList → ∀ K : Act → World → Prop,
      (∀ v w', Base w' → F i v w' → (∀ j u, j ≠ i → F j u w → F j u w') → (∀ j, (anc i).contains j = false → G j w → G j w') → K ((A ys).put o.dst v) w') → Oper.wp P o (A ys) w K Q)
    (hl : Steps4 P md ops Q F Base G anc A k l) : Steps4 P md ops Q F Base G anc A i (o :: l) :=
  ⟨fun ys w hB hG hP K hK => by rw [if_pos (by simp [Region.wanted, hg])]; exact h ys w hB hG hP K hK, hk ▸ hl⟩
theorem Steps4.at {F : Nat → Value → World → Prop} {Base : World → Prop} {G : Nat → World → Prop} {anc : Nat → List Nat} {A : (Nat → Value) → Act} : ∀ {l : List Oper} {i : Nat}, Steps4 P md ops Q F Base G anc A i l → ∀ k o, l[k]? = some o → ∀ (ys : Nat → Value) (w : World), Base w → G (i + k) w → Preds md F ys w o.after.toList → ∀ K : Act → World → Prop,
      (∀ v w', Base w' → F (i + k) v w' → (∀ j u, j ≠ i + k → F j u w → F j u w') → (∀ j, (anc (i + k)).contains j = false → G j w → G j w') → K ((A ys).put o.dst v) w') →
      if Region.wanted o (yielded ops (A ys).tmps) = true then Oper.wp P o (A ys) w K Q else K ((A ys).put o.dst undef) w
  | [], _, _, _, _, h => by simp at h
  | p :: l, i, hs, 0, o, h => by
    simp only [List.getElem?_cons_zero, Option.some.injEq] at h
    subst h
    exact hs.1
  | p :: l, i, hs, k + 1, o, h => by
    have := Steps4.at hs.2 k o (by simpa using h)
    rw [show i + 1 + k = i + (k + 1) by omega] at this
    exact this
/-- `anc` names only what is done ahead. -/
def ancOk (md : Region.Mode) (ops : Array Oper) (anc : Nat → List Nat) : Bool :=
  (List.range ops.size).all fun i => (ops[i]?.map fun o => (anc i).all fun x => o.after.toList.any fun e => Region.binds md e && (e.on == x || (anc e.on).contains x)).getD true
theorem wpAny_facts4_go (F : Nat → Value → World → Prop) (Base : World → Prop) (G : Nat → World → Prop) (anc : Nat → List Nat) (a0 : Act) (hback : ((List.range ops.size).all fun i => (ops[i]?.map fun o => o.after.all fun e => !(Region.binds md e) || decide (e.on < i)).getD true) = true) (hdst : apartD ops.toList = true) (hanc : ancOk md ops anc = true)
    (hstep : Steps4 P md ops Q F Base G anc (fun ys => fillA ops.toList 0 ys a0) 0 ops.toList)
    (hend : ∀ ys w, Base w → (∀ i, i < ops.size → F i (ys i) w) → Q .normal (fillA ops.toList 0 ys a0) w) :
    ∀ (fuel : Nat) (listed : Array Bool) (ys : Nat → Value) (w : World), listed.size = ops.size → listed.toList.count false ≤ fuel → Base w → (∀ i, listed[i]? = some true → F i (ys i) w) → (∀ i, listed[i]? = some false → G i w) → (∀ i, listed[i]? = some true → ∀ x, (anc i).contains x = true → listed[x]? = some true) →
      wpAny P md ops Q fuel listed (fillA ops.toList 0 ys a0) w := by
  have hfull : ∀ (listed : Array Bool), listed.size = ops.size → Region.ready md ops listed = [] → ∀ i, i < ops.size → listed[i]? = some true := by
    intro listed hsz hr i
    induction i using Nat.strongRecOn with
    | ind i ih =>
      intro hi
      rcases hb : listed[i]'(by omega) with _ | _
      · exfalso
        have : i ∈ Region.ready md ops listed := by
          unfold Region.ready
          rw [List.mem_filter]
          refine ⟨by simpa using hi, ?_⟩
          have e1 : listed.getD i true = false := by simp [Array.getD, hsz, hi, hb]
          have e2 : ops[i]? = some ops[i] := by simp [hi]
          rw [e1, e2]
          simp only [Bool.not_false, Bool.true_and, Option.map_some, Option.getD_some, Array.all_eq_true]
          intro k hk
          have hbk := List.all_eq_true.1 hback i (by simpa using hi)
          rw [e2] at hbk
          simp only [Option.map_some, Option.getD_some, Array.all_eq_true] at hbk
          have hlt := hbk k hk
          rw [Bool.or_eq_true] at hlt ⊢
          rcases hlt with hlt | hlt
          · exact .inl hlt
          · right
            have := ih _ (of_decide_eq_true hlt) (by have := of_decide_eq_true hlt; omega)
            simp [Array.getD_eq_getD_getElem?, this]
        rw [hr] at this
        cases this
      · simp [hsz, hi, hb]
  intro fuel
  induction fuel with
  | zero =>
    intro listed ys w hsz hc hB hF hG hL
    have hall : ∀ i, i < ops.size → listed[i]? = some true := by
      intro i hi
      have h0 : listed.toList.count false = 0 := by omega
      rw [List.count_eq_zero] at h0
      rcases hb : listed[i]'(by omega) with _ | _
      · exact absurd (by rw [← hb]; exact Array.getElem_mem_toList _) h0
      · simp [hsz, hi, hb]
    refine ⟨?_, hend ys w hB fun i hi => hF i (hall i hi)⟩
    unfold Region.ready
    rw [List.filter_eq_nil_iff]
    intro i hi
    have hi' : i < ops.size := by simpa using hi
    have : listed.getD i true = true := by simp [Array.getD_eq_getD_getElem?, hall i hi']
    simp [this]
  | succ fuel ih =>
    intro listed ys w hsz hc hB hF hG hL
    refine ⟨fun hr => hend ys w hB fun i hi => hF i (hfull listed hsz hr i hi), fun i hi => ?_⟩
    unfold Region.ready at hi
    rw [List.mem_filter] at hi
    obtain ⟨hi1, hi2⟩ := hi
    have hi' : i < ops.size := by simpa using hi1
    have e2 : ops[i]? = some ops[i] := by simp [hi']
    rw [e2] at hi2
    simp only [Option.map_some, Option.getD_some, Bool.and_eq_true, Bool.not_eq_true'] at hi2
    obtain ⟨hf, ha⟩ := hi2
    refine wpOp_step e2 fun K' hK' => ?_
    have hl : ops.toList[i]? = some ops[i] := by simp [hi']
    have hfi0 : listed[i]? = some false := by
      have hlt : i < listed.size := by omega
      have : listed[i] = false := by simpa [Array.getD, hlt] using hf
      simp [hlt, this]
    have hpre : ∀ e ∈ (ops[i]'hi').after.toList, Region.binds md e = true → listed[e.on]? = some true := by
      intro e he hb
      have := Array.all_eq_true'.1 ha e (by simpa using he)
      rw [hb] at this
      simp only [Bool.not_true, Bool.false_or, Array.getD_eq_getD_getElem?] at this
      rcases hx : listed[e.on]? with _ | b
      · rw [hx] at this; cases this
      · rw [hx] at this; simp at this; rw [this]
    have hai : ∀ x, (anc i).contains x = true → listed[x]? = some true := by
      intro x hx
      have hk := List.all_eq_true.1 hanc i (by simpa using hi')
      rw [e2] at hk
      simp only [Option.map_some, Option.getD_some] at hk
      have hk := List.all_eq_true.1 hk x (by simpa using hx)
      obtain ⟨e, he, hk⟩ := List.any_eq_true.1 hk
      rw [Bool.and_eq_true, Bool.or_eq_true] at hk
      have hon := hpre e he hk.1
      rcases hk.2 with h | h
      · have : e.on = x := by simpa using h
        rw [← this]; exact hon
      · exact hL _ hon x h
    have := Steps4.at hstep i ops[i] hl ys w hB (by rw [Nat.zero_add]; exact hG i hfi0) (Preds.of fun e he hb => hF _ (hpre e he hb)) K' ?_
    · exact this
    · intro v w' hB' hFi hkeep hgk
      rw [Nat.zero_add] at hFi hkeep hgk
      refine hK' _ _ ?_
      rw [fillA_set _ _ i _ ys a0 v hdst hl]
      refine ih _ _ _ (by simpa using hsz) ?_ hB' ?_ ?_ ?_
      · have hlt : i < listed.size := by omega
        have hfi : listed[i] = false := by simpa [Array.getD, hlt] using hf
        have : (listed.setIfInBounds i true).toList.count false + 1 = listed.toList.count false := by
          rw [Array.toList_setIfInBounds]
          have h1 : i < listed.toList.length := by simpa using hlt
          rw [List.count_set h1]
          have h2 : listed.toList[i] = false := by simpa using hfi
          have h3 : 0 < listed.toList.count false := List.count_pos_iff.2 (by rw [← h2]; exact List.getElem_mem h1)
          rw [h2, if_pos (show (false == false) = true from rfl), if_neg (by decide)]
          omega
        omega
      · intro j hj
        by_cases e : j = i
        · subst e; simpa using hFi
        · rw [if_neg (by omega)]
          refine hkeep j _ e (hF j ?_)
          rw [Array.getElem?_setIfInBounds_ne (by omega)] at hj
          exact hj
      · intro j hj
        have hij : j ≠ i := by
          rintro rfl
          rw [Array.getElem?_setIfInBounds_self_of_lt (by omega)] at hj
          cases hj
        rw [Array.getElem?_setIfInBounds_ne (by omega)] at hj
        refine hgk j ?_ (hG j hj)
        rcases hx : (anc i).contains j with _ | _
        · rfl
        · rw [hai j hx] at hj; cases hj
      · intro j hj x hx
        have hset : ∀ y : Nat, listed[y]? = some true → (listed.setIfInBounds i true)[y]? = some true := by
          intro y hy
          by_cases e : y = i
          · subst e; rw [hfi0] at hy; cases hy
          · rw [Array.getElem?_setIfInBounds_ne (by omega)]; exact hy
        by_cases e : j = i
        · subst e; exact hset x (hai x hx)
        · rw [Array.getElem?_setIfInBounds_ne (by omega)] at hj
          exact hset x (hL j hj x hx)

theorem wp_region_facts4 {id : Nat} {a : Act} {w : World} (F : Nat → Value → World → Prop) (Base : World → Prop) (G : Nat → World → Prop) (anc : Nat → List Nat) (hm : P.follows .mixedOrders = true)
    (hback : ((List.range ops.size).all fun i => (ops[i]?.map fun o => o.after.all fun e => !(Region.binds .any e) || decide (e.on < i)).getD true) = true) (hdst : apartD ops.toList = true) (hanc : ancOk .any ops anc = true)
    (hB : Base w.drew) (hG : ∀ i, i < ops.size → G i w.drew)
    (hstep : Steps4 P .any ops Q F Base G anc (fun ys => fillA ops.toList 0 ys a) 0 ops.toList)
    (hend : ∀ ys w, Base w → (∀ i, i < ops.size → F i (ys i) w) → Q .normal (fillA ops.toList 0 ys a) w) : (Code.region id ops true).wp P Q a w := by
  refine wp_region_any hm ?_
  obtain ⟨ys, h⟩ := fillA_old ops.toList a 0
  have := wpAny_facts4_go (P := P) (md := .any) (Q := Q) F Base G anc a hback hdst hanc hstep hend ops.size (Array.replicate ops.size false) ys w.drew (by simp) (by simp) hB (fun i hi => by
    rcases Nat.lt_or_ge i ops.size with h1 | h1
    · simp [h1] at hi
    · rw [Array.getElem?_eq_none (by simpa using h1)] at hi; cases hi) (fun i hi => hG i (by
    rcases Nat.lt_or_ge i ops.size with h1 | h1
    · exact h1
    · rw [Array.getElem?_eq_none (by simpa using h1)] at hi; cases hi)) (fun i hi => by
    rcases Nat.lt_or_ge i ops.size with h1 | h1
    · simp [h1] at hi
    · rw [Array.getElem?_eq_none (by simpa using h1)] at hi; cases hi)
  rw [h] at this
  exact this
end
end Go.Proofs.YtjdmobildcgidaaDoor
