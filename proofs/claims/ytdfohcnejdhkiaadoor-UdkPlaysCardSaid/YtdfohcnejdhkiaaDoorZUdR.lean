/-
  Keys with texts: Same of the program.
-/
import Derived.DeepKeys
import Derived.Test.YtdfohcnejdhkiaaDoorZUdQ
namespace Go.Proofs.YtdfohcnejdhkiaaDoor
set_option linter.unusedSimpArgs false
set_option linter.unusedVariables false
open Go.RowKit
set_option linter.unusedVariables false

theorem bsl_beq (a b : List UInt8) : ((bsl a).toList == (bsl b).toList) = decide (a = b) := by
  rw [ByteArray.toList_eq, ByteArray.toList_eq, bsl_list, bsl_list]
  by_cases h : a = b
  · subst h; simp
  · rw [decide_eq_false h]; simpa using h
theorem eq_items (d : Nat) (xs ys : Array Value) (A B : Txs) (w : World) : ∀ (is : List Nat), (∀ i ∈ is, ∃ s t, A[i]? = some s ∧ B[i]? = some t ∧ xs[i]? = some (.string (bsl s)) ∧ ys[i]? = some (.string (bsl t))) →
    (Op.eqItems (d + 1) 9 1 xs ys is).run Tryd.prog w = .ok (is.all fun i => decide (A[i]? = B[i]?)) w
  | [], _ => by simp [Op.eqItems]
  | i :: is, h => by
    obtain ⟨s, t, h1, h2, h3, h4⟩ := h i (by simp)
    have ih := eq_items d xs ys A B w is fun j hj => h j (by simp [hj])
    have hp1 : (part 9 xs (i * 1)).run Tryd.prog w = .ok (.string (bsl s)) w := by
      rw [Nat.mul_one]
      have hu := run_underlying Tryd.underlying9 w
      simp [part, isAgg, hu, h3]
    have hp2 : (part 9 ys (i * 1)).run Tryd.prog w = .ok (.string (bsl t)) w := by
      rw [Nat.mul_one]
      have hu := run_underlying Tryd.underlying9 w
      simp [part, isAgg, hu, h4]
    have he := run_equalIn_string w d 9 (bsl s) (bsl t) Tryd.underlying9
    rw [bsl_beq] at he
    simp only [Op.eqItems, Sem.run_bind, hp1, hp2, he, Result.andThen_ok, List.all_cons, h1, h2]
    by_cases hst : s = t
    · subst hst
      simp [ih]
    · simp [hst]
theorem all_eq {A B : Txs} (hA : A.length = 18) (hB : B.length = 18) : ((List.range 18).all fun i => decide (A[i]? = B[i]?)) = decide (A = B) := by
  rw [Bool.eq_iff_iff, List.all_eq_true, decide_eq_true_iff]
  constructor
  · intro h
    apply List.ext_getElem?
    intro i
    by_cases hi : i < 18
    · simpa using h i (by simpa using hi)
    · rw [List.getElem?_eq_none (by omega), List.getElem?_eq_none (by omega)]
  · rintro rfl i _
    simp
theorem keys_flds : (Tryd.prog.fieldsOf 27).toList.map (fun f => (f.name, f.type, f.offset)) = [("texts", 25, 0), ("locked", 4, 18)] := by kernel_rfl
theorem keys_fields : ∃ f1 f2 : Field, (Tryd.prog.fieldsOf 27).toList = [f1, f2] ∧ (f1.name, f1.type, f1.offset) = ("texts", 25, 0) ∧ (f2.name, f2.type, f2.offset) = ("locked", 4, 18) := by
  have h := keys_flds
  generalize (Tryd.prog.fieldsOf 27).toList = F at h
  rcases F with _ | ⟨f1, F⟩
  · cases h
  rcases F with _ | ⟨f2, F⟩
  · injection h with _ h; cases h
  rcases F with _ | ⟨f3, F⟩
  · simp only [List.map_cons, List.map_nil, List.cons.injEq, and_true] at h
    exact ⟨f1, f2, rfl, h.1, h.2⟩
  · injection h with _ h; injection h with _ h; cases h
theorem run_eqFields_two {P : Program} {w : World} {d : Nat} {xs ys : Array Value} {f1 f2 : Field} {n1 n2 : String} {t1 t2 : TypeId} {o1 o2 : Nat} (h1 : (f1.name, f1.type, f1.offset) = (n1, t1, o1)) (h2 : (f2.name, f2.type, f2.offset) = (n2, t2, o2))
    (e1 : n1 ≠ "_") (e2 : n2 ≠ "_") {a1 b1 a2 b2 : Value} {r1 r2 : Bool} (p1 : (part t1 xs o1).run P w = .ok a1 w) (q1 : (part t1 ys o1).run P w = .ok b1 w) (s1 : (Op.equalIn d t1 a1 b1).run P w = .ok r1 w)
    (p2 : (part t2 xs o2).run P w = .ok a2 w) (q2 : (part t2 ys o2).run P w = .ok b2 w) (s2 : (Op.equalIn d t2 a2 b2).run P w = .ok r2 w) : (Op.eqFields d xs ys [f1, f2]).run P w = .ok (r1 && r2) w := by
  injection h1 with h1a h1
  injection h1 with h1b h1c
  injection h2 with h2a h2
  injection h2 with h2b h2c
  subst h1a; subst h1b; subst h1c; subst h2a; subst h2b; subst h2c
  simp only [Op.eqFields, if_pos e1, if_pos e2, Sem.run_bind, p1, q1, s1, Result.andThen_ok]
  cases r1
  · simp
  · simp only [Bool.not_true, Bool.false_eq_true, if_false, Sem.run_bind, p2, q2, s2, Result.andThen_ok]
    cases r2 <;> simp
theorem keys_eqD (d : Nat) (L L' : Txs) (lk lk' : Bool) (hL : L.length = 18) (hL' : L'.length = 18) (w : World) :
    (Op.equalIn (d + 1 + 1 + 1) 27 (.agg (kcs L lk).toArray) (.agg (kcs L' lk').toArray)).run Tryd.prog w = .ok (decide (L = L') && (lk == lk')) w := by
  have hitems := eq_items d ((kcs L lk).toArray.extract 0 18) ((kcs L' lk').toArray.extract 0 18) L L' w (List.range 18) (fun i hi => by
    have hi18 : i < 18 := by simpa using hi
    obtain ⟨s, hs⟩ : ∃ s, L[i]? = some s := ⟨_, List.getElem?_eq_getElem (by omega)⟩
    obtain ⟨t, ht⟩ : ∃ t, L'[i]? = some t := ⟨_, List.getElem?_eq_getElem (by omega)⟩
    have h1 := kcs_at lk hs
    have h2 := kcs_at lk' ht
    refine ⟨s, t, hs, ht, ?_, ?_⟩
    · rw [Array.getElem?_extract, if_pos (by simp [kcs_len hL]; omega)]; simpa using h1
    · rw [Array.getElem?_extract, if_pos (by simp [kcs_len hL']; omega)]; simpa using h2)
  rw [all_eq hL hL'] at hitems
  obtain ⟨i0, hi0⟩ : ∃ i, Tryd.prog.info? 9 = some i := Option.isSome_iff_exists.1 (by kernel_rfl)
  have hc1 : Tryd.prog.cellsOf 9 = 1 := by kernel_rfl
  have harr := run_equalIn_array (P := Tryd.prog) w (d + 1) ((kcs L lk).toArray.extract 0 18) ((kcs L' lk').toArray.extract 0 18) Tryd.underlying25 hi0
  rw [hc1, hitems] at harr
  have hpt : ∀ (M : Txs) (k : Bool), (part 25 (kcs M k).toArray 0).run Tryd.prog w = .ok (.agg ((kcs M k).toArray.extract 0 18)) w := by
    intro M k
    have hu := run_underlying Tryd.underlying25 w
    have hs : (sizeOf 25).run Tryd.prog w = .ok 18 w := by kernel_rfl
    simp [part, isAgg, hu, hs]
  have hpl : ∀ (M : Txs) (k : Bool), M.length = 18 → (part 4 (kcs M k).toArray 18).run Tryd.prog w = .ok (.bool k) w := by
    intro M k hM
    have hu := run_underlying Tryd.underlying4 w
    have hk := kcs_lock hM k
    simp [part, isAgg, hu, hk]
  have hb := run_equalIn_bool' w (d + 1) 4 lk lk' Tryd.underlying4
  rw [run_equalIn_struct w (d + 1 + 1) 27 _ _ (by kernel_rfl) (by kernel_rfl)]
  obtain ⟨f1, f2, hF, hf1, hf2⟩ := keys_fields
  rw [hF]
  exact run_eqFields_two hf1 hf2 (by decide) (by decide) (hpt L lk) (hpt L' lk') harr (hpl L lk hL) (hpl L' lk' hL') hb
theorem keys_eq (L L' : Txs) (lk lk' : Bool) (hL : L.length = 18) (hL' : L'.length = 18) (w : World) :
    (Op.equalIn 10000 27 (.agg (kcs L lk).toArray) (.agg (kcs L' lk').toArray)).run Tryd.prog w = .ok (decide (L = L') && (lk == lk')) w :=
  keys_eqD 9997 L L' lk lk' hL hL' w
end Go.Proofs.YtdfohcnejdhkiaaDoor
