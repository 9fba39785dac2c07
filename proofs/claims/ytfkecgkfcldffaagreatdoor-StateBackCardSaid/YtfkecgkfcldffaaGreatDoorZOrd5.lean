/-
  The rule with facts over several slots, where edges that bind nothing may point on.
-/
import Derived.Test.YtfkecgkfcldffaaGreatDoorZOrd2
namespace Go.Proofs.YtfkecgkfcldffaaGreatDoor
set_option linter.unusedSimpArgs false
set_option linter.unusedVariables false
open Go.RowKit
section
variable {P : Program} {md : Region.Mode} {ops : Array Oper} {Q : Exit → Act → World → Prop}
theorem wpAny_facts5_go (F : Nat → (Nat → Value) → World → Prop) (D : Nat → Nat → Value → Value → Prop) (Base : World → Prop) (a0 : Act) (hback : ((List.range ops.size).all fun i => (ops[i]?.map fun o => o.after.all fun e => !(Region.binds md e) || decide (e.on < i)).getD true) = true) (hdst : apartD ops.toList = true)
    (hcong : ∀ j o, ops[j]? = some o → ∀ ys zs w, ys j = zs j → (∀ e ∈ o.after.toList, Region.binds md e = true → ys e.on = zs e.on) → F j ys w → F j zs w)
    (hstep : Steps2 P md ops Q F D Base (fun ys => fillA ops.toList 0 ys a0) 0 ops.toList)
    (hend : ∀ ys w, Base w → (∀ i, i < ops.size → F i ys w) → (∀ i j, i < j → j < ops.size → D i j (ys i) (ys j)) → Q .normal (fillA ops.toList 0 ys a0) w) :
    ∀ (fuel : Nat) (listed : Array Bool) (ys : Nat → Value) (w : World), listed.size = ops.size → listed.toList.count false ≤ fuel → Base w → Done md ops F D (fun i => listed[i]? = some true) ys w →
      wpAny P md ops Q fuel listed (fillA ops.toList 0 ys a0) w := by
  have hfull : ∀ (listed : Array Bool), listed.size = ops.size → Region.ready md ops listed = [] → ∀ i, i < ops.size → listed[i]? = some true := by
    intro listed hsz hr i
    induction i using Nat.strongRecOn with
    | ind i ih =>
      intro hi
      rcases hb : listed[i]'(by omega) with _ | _
      · exfalso
        have : i ∈ Region.ready md ops listed := by
          unfold Region.ready
          rw [List.mem_filter]
          refine ⟨by simpa using hi, ?_⟩
          have e1 : listed.getD i true = false := by simp [Array.getD, hsz, hi, hb]
          have e2 : ops[i]? = some ops[i] := by simp [hi]
          rw [e1, e2]
          simp only [Bool.not_false, Bool.true_and, Option.map_some, Option.getD_some, Array.all_eq_true]
          intro k hk
          have hbk := List.all_eq_true.1 hback i (by simpa using hi)
          rw [e2] at hbk
          simp only [Option.map_some, Option.getD_some, Array.all_eq_true] at hbk
          have hlt := hbk k hk
          rw [Bool.or_eq_true] at hlt ⊢
          rcases hlt with hlt | hlt
          · exact .inl hlt
          · right
            have := ih _ (of_decide_eq_true hlt) (by have := of_decide_eq_true hlt; omega)
            simp [Array.getD_eq_getD_getElem?, this]
        rw [hr] at this
        cases this
      · simp [hsz, hi, hb]
  intro fuel
  induction fuel with
  | zero =>
    intro listed ys w hsz hc hB hD
    have hall : ∀ i, i < ops.size → listed[i]? = some true := by
      intro i hi
      have h0 : listed.toList.count false = 0 := by omega
      rw [List.count_eq_zero] at h0
      rcases hb : listed[i]'(by omega) with _ | _
      · exact absurd (by rw [← hb]; exact Array.getElem_mem_toList _) h0
      · simp [hsz, hi, hb]
    refine ⟨?_, hend ys w hB (fun i hi => hD.fact i (hall i hi)) fun i j hij hj => hD.two i j (hall i (by omega)) (hall j hj) hij⟩
    unfold Region.ready
    rw [List.filter_eq_nil_iff]
    intro i hi
    have hi' : i < ops.size := by simpa using hi
    have : listed.getD i true = true := by simp [Array.getD_eq_getD_getElem?, hall i hi']
    simp [this]
  | succ fuel ih =>
    intro listed ys w hsz hc hB hD
    refine ⟨fun hr => hend ys w hB (fun i hi => hD.fact i (hfull listed hsz hr i hi)) fun i j hij hj => hD.two i j (hfull listed hsz hr i (by omega)) (hfull listed hsz hr j hj) hij, fun i hi => ?_⟩
    unfold Region.ready at hi
    rw [List.mem_filter] at hi
    obtain ⟨hi1, hi2⟩ := hi
    have hi' : i < ops.size := by simpa using hi1
    have e2 : ops[i]? = some ops[i] := by simp [hi']
    rw [e2] at hi2
    simp only [Option.map_some, Option.getD_some, Bool.and_eq_true, Bool.not_eq_true'] at hi2
    obtain ⟨hf, ha⟩ := hi2
    have hlt : i < listed.size := by omega
    have hfi : listed[i] = false := by simpa [Array.getD, hlt] using hf
    have hni : ¬ (listed[i]? = some true) := by simp [hlt, hfi]
    have hpre : ∀ e ∈ ops[i].after.toList, Region.binds md e = true → listed[e.on]? = some true := by
      intro e he hb
      have := Array.all_eq_true'.1 ha e (by simpa using he)
      rw [hb] at this
      simp only [Bool.not_true, Bool.false_or, Array.getD_eq_getD_getElem?] at this
      rcases hx : listed[e.on]? with _ | b
      · rw [hx] at this; cases this
      · rw [hx] at this; simp at this; rw [this]
    refine wpOp_step e2 fun K' hK' => ?_
    have hl : ops.toList[i]? = some ops[i] := by simp [hi']
    have hst := Steps2.at hstep i ops[i] hl
    rw [Nat.zero_add] at hst
    have := hst (fun i => listed[i]? = some true) ys w hB hD (LAll.of hpre) hni K' ?_
    · exact this
    · intro v w' hB' hFi hkeep hD2
      refine hK' _ _ ?_
      rw [fillA_set _ _ i _ ys a0 v hdst hl, Nat.zero_add]
      have hset : ∀ j, (listed.setIfInBounds i true)[j]? = some true ↔ (j = i ∨ listed[j]? = some true) := by
        intro j
        by_cases e : j = i
        · subst e; simp [hlt]
        · rw [Array.getElem?_setIfInBounds_ne (by omega)]; simp [e]
      refine ih _ _ _ (by simpa using hsz) ?_ hB' ?_
      · have : (listed.setIfInBounds i true).toList.count false + 1 = listed.toList.count false := by
          rw [Array.toList_setIfInBounds]
          have h1 : i < listed.toList.length := by simpa using hlt
          rw [List.count_set h1]
          have h2 : listed.toList[i] = false := by simpa using hfi
          have h3 : 0 < listed.toList.count false := List.count_pos_iff.2 (by rw [← h2]; exact List.getElem_mem h1)
          rw [h2, if_pos (show (false == false) = true from rfl), if_neg (by decide)]
          omega
        omega
      · refine ⟨fun j hj => ?_, fun j k hj hk hjk => ?_, fun j o hj ho e he hb => ?_, fun j hj => ?_⟩
        · rcases (hset j).1 hj with rfl | hj'
          · exact hFi
          · have hji : j ≠ i := by rintro rfl; exact hni hj'
            have hjs := hD.lt j hj'
            refine hcong j ops[j] (by simp [hjs]) ys _ w' (by simp [hji]) (fun e he hb => ?_) (hkeep j hj' (hD.fact j hj'))
            have := hD.back j ops[j] hj' (by simp [hjs]) e he hb
            have hei : e.on ≠ i := by intro x; rw [x] at this; exact hni this
            simp [hei]
        · rcases (hset j).1 hj with rfl | hj'
          · rcases (hset k).1 hk with rfl | hk'
            · omega
            · have hkj : k ≠ j := by omega
              simpa [hkj] using (hD2 k hk').1 hjk
          · rcases (hset k).1 hk with rfl | hk'
            · have hkj : j ≠ k := by omega
              simpa [hkj] using (hD2 j hj').2 hjk
            · have h1 : j ≠ i := by rintro rfl; exact hni hj'
              have h2 : k ≠ i := by rintro rfl; exact hni hk'
              simpa [h1, h2] using hD.two j k hj' hk' hjk
        · rcases (hset j).1 hj with rfl | hj'
          · rw [e2] at ho; injection ho with ho; subst ho
            exact (hset _).2 (.inr (hpre e he hb))
          · exact (hset _).2 (.inr (hD.back j o hj' ho e he hb))
        · rcases (hset j).1 hj with rfl | hj'
          · exact hi'
          · exact hD.lt j hj'

theorem wp_region_facts5 {id : Nat} {a : Act} {w : World} (F : Nat → (Nat → Value) → World → Prop) (D : Nat → Nat → Value → Value → Prop) (Base : World → Prop) (hm : P.follows .mixedOrders = true)
    (hback : ((List.range ops.size).all fun i => (ops[i]?.map fun o => o.after.all fun e => !(Region.binds .any e) || decide (e.on < i)).getD true) = true) (hdst : apartD ops.toList = true)
    (hcong : ∀ j o, ops[j]? = some o → ∀ ys zs w, ys j = zs j → (∀ e ∈ o.after.toList, Region.binds .any e = true → ys e.on = zs e.on) → F j ys w → F j zs w)
    (hB : Base w.drew)
    (hstep : Steps2 P .any ops Q F D Base (fun ys => fillA ops.toList 0 ys a) 0 ops.toList)
    (hend : ∀ ys w, Base w → (∀ i, i < ops.size → F i ys w) → (∀ i j, i < j → j < ops.size → D i j (ys i) (ys j)) → Q .normal (fillA ops.toList 0 ys a) w) : (Code.region id ops true).wp P Q a w := by
  refine wp_region_any hm ?_
  obtain ⟨ys, h⟩ := fillA_old ops.toList a 0
  have he : ∀ i : Nat, ¬ ((Array.replicate ops.size false)[i]? = some true) := by
    intro i hi
    rcases Nat.lt_or_ge i ops.size with h1 | h1
    · simp [h1] at hi
    · rw [Array.getElem?_eq_none (by simpa using h1)] at hi; cases hi
  have hd0 : Done .any ops F D (fun i : Nat => (Array.replicate ops.size false)[i]? = some true) ys w.drew :=
    ⟨fun i hi => absurd hi (he i), fun i _ hi _ _ => absurd hi (he i), fun i _ hi _ _ _ _ => absurd hi (he i), fun i hi => absurd hi (he i)⟩
  have := wpAny_facts5_go (P := P) (md := .any) (Q := Q) F D Base a hback hdst hcong hstep hend ops.size (Array.replicate ops.size false) ys w.drew (by simp) (by simp) hB
    hd0
  rw [h] at this
  exact this
end
end Go.Proofs.YtfkecgkfcldffaaGreatDoor
