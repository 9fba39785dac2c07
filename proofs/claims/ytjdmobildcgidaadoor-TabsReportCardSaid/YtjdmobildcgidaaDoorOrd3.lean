/-
  The rule on regions that draw their order, where edges that bind nothing may point on.
-/
import Derived.Test.YtjdmobildcgidaaDoorOrd
namespace Go.Proofs.YtjdmobildcgidaaDoor
set_option linter.unusedSimpArgs false
set_option linter.unusedVariables false
open Go.RowKit
section
variable {P : Program} {md : Region.Mode} {ops : Array Oper} {Q : Exit → Act → World → Prop}
theorem wpAny_facts3_go (F : Nat → Value → World → Prop) (Base : World → Prop) (a0 : Act) (hback : ((List.range ops.size).all fun i => (ops[i]?.map fun o => o.after.all fun e => !(Region.binds md e) || decide (e.on < i)).getD true) = true) (hdst : apartD ops.toList = true)
    (hstep : Steps P md ops Q F Base (fun ys => fillA ops.toList 0 ys a0) 0 ops.toList)
    (hend : ∀ ys w, Base w → (∀ i, i < ops.size → F i (ys i) w) → Q .normal (fillA ops.toList 0 ys a0) w) :
    ∀ (fuel : Nat) (listed : Array Bool) (ys : Nat → Value) (w : World), listed.size = ops.size → listed.toList.count false ≤ fuel → Base w → (∀ i, listed[i]? = some true → F i (ys i) w) →
      wpAny P md ops Q fuel listed (fillA ops.toList 0 ys a0) w := by
  have hfull : ∀ (listed : Array Bool), listed.size = ops.size → Region.ready md ops listed = [] → ∀ i, i < ops.size → listed[i]? = some true := by
    intro listed hsz hr i
    induction i using Nat.strongRecOn with
    | ind i ih =>
      intro hi
      rcases hb : listed[i]'(by omega) with _ | _
      · exfalso
        have : i ∈ Region.ready md ops listed := by
          unfold Region.ready
          rw [List.mem_filter]
          refine ⟨by simpa using hi, ?_⟩
          have e1 : listed.getD i true = false := by simp [Array.getD, hsz, hi, hb]
          have e2 : ops[i]? = some ops[i] := by simp [hi]
          rw [e1, e2]
          simp only [Bool.not_false, Bool.true_and, Option.map_some, Option.getD_some, Array.all_eq_true]
          intro k hk
          have hbk := List.all_eq_true.1 hback i (by simpa using hi)
          rw [e2] at hbk
          simp only [Option.map_some, Option.getD_some, Array.all_eq_true] at hbk
          have hlt := hbk k hk
          rw [Bool.or_eq_true] at hlt ⊢
          rcases hlt with hlt | hlt
          · exact .inl hlt
          · right
            have := ih _ (of_decide_eq_true hlt) (by have := of_decide_eq_true hlt; omega)
            simp [Array.getD_eq_getD_getElem?, this]
        rw [hr] at this
        cases this
      · simp [hsz, hi, hb]
  intro fuel
  induction fuel with
  | zero =>
    intro listed ys w hsz hc hB hF
    have hall : ∀ i, i < ops.size → listed[i]? = some true := by
      intro i hi
      have h0 : listed.toList.count false = 0 := by omega
      rw [List.count_eq_zero] at h0
      rcases hb : listed[i]'(by omega) with _ | _
      · exact absurd (by rw [← hb]; exact Array.getElem_mem_toList _) h0
      · simp [hsz, hi, hb]
    refine ⟨?_, hend ys w hB fun i hi => hF i (hall i hi)⟩
    unfold Region.ready
    rw [List.filter_eq_nil_iff]
    intro i hi
    have hi' : i < ops.size := by simpa using hi
    have : listed.getD i true = true := by simp [Array.getD_eq_getD_getElem?, hall i hi']
    simp [this]
  | succ fuel ih =>
    intro listed ys w hsz hc hB hF
    refine ⟨fun hr => hend ys w hB fun i hi => hF i (hfull listed hsz hr i hi), fun i hi => ?_⟩
    unfold Region.ready at hi
    rw [List.mem_filter] at hi
    obtain ⟨hi1, hi2⟩ := hi
    have hi' : i < ops.size := by simpa using hi1
    have e2 : ops[i]? = some ops[i] := by simp [hi']
    rw [e2] at hi2
    simp only [Option.map_some, Option.getD_some, Bool.and_eq_true, Bool.not_eq_true'] at hi2
    obtain ⟨hf, ha⟩ := hi2
    refine wpOp_step e2 fun K' hK' => ?_
    have hl : ops.toList[i]? = some ops[i] := by simp [hi']
    have := Steps.at hstep i ops[i] hl ys w hB (Preds.of fun e he hb => hF _ ?_) K' ?_
    · exact this
    · have := Array.all_eq_true'.1 ha e (by simpa using he)
      rw [hb] at this
      simp only [Bool.not_true, Bool.false_or, Array.getD_eq_getD_getElem?] at this
      rcases hx : listed[e.on]? with _ | b
      · rw [hx] at this; cases this
      · rw [hx] at this; simp at this; rw [this]
    · intro v w' hB' hFi hkeep
      rw [Nat.zero_add] at hFi hkeep
      refine hK' _ _ ?_
      rw [fillA_set _ _ i _ ys a0 v hdst hl]
      refine ih _ _ _ (by simpa using hsz) ?_ hB' ?_
      · have hlt : i < listed.size := by omega
        have hfi : listed[i] = false := by simpa [Array.getD, hlt] using hf
        have : (listed.setIfInBounds i true).toList.count false + 1 = listed.toList.count false := by
          rw [Array.toList_setIfInBounds]
          have h1 : i < listed.toList.length := by simpa using hlt
          rw [List.count_set h1]
          have h2 : listed.toList[i] = false := by simpa using hfi
          have h3 : 0 < listed.toList.count false := List.count_pos_iff.2 (by rw [← h2]; exact List.getElem_mem h1)
          rw [h2, if_pos (show (false == false) = true from rfl), if_neg (by decide)]
          omega
        omega
      · intro j hj
        by_cases e : j = i
        · subst e; simpa using hFi
        · rw [if_neg (by omega)]
          refine hkeep j _ e (hF j ?_)
          rw [Array.getElem?_setIfInBounds_ne (by omega)] at hj
          exact hj

theorem wp_region_facts3 {id : Nat} {a : Act} {w : World} (F : Nat → Value → World → Prop) (Base : World → Prop) (hm : P.follows .mixedOrders = true)
    (hback : ((List.range ops.size).all fun i => (ops[i]?.map fun o => o.after.all fun e => !(Region.binds .any e) || decide (e.on < i)).getD true) = true) (hdst : apartD ops.toList = true)
    (hB : Base w.drew)
    (hstep : Steps P .any ops Q F Base (fun ys => fillA ops.toList 0 ys a) 0 ops.toList)
    (hend : ∀ ys w, Base w → (∀ i, i < ops.size → F i (ys i) w) → Q .normal (fillA ops.toList 0 ys a) w) : (Code.region id ops true).wp P Q a w := by
  refine wp_region_any hm ?_
  obtain ⟨ys, h⟩ := fillA_old ops.toList a 0
  have := wpAny_facts3_go (P := P) (md := .any) (Q := Q) F Base a hback hdst hstep hend ops.size (Array.replicate ops.size false) ys w.drew (by simp) (by simp) hB (fun i hi => by
    rcases Nat.lt_or_ge i ops.size with h1 | h1
    · simp [h1] at hi
    · rw [Array.getElem?_eq_none (by simpa using h1)] at hi; cases hi)
  rw [h] at this
  exact this
end
end Go.Proofs.YtjdmobildcgidaaDoor
