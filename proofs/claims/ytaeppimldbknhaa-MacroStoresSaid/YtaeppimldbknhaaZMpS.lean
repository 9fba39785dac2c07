/-
  More on maps of texts: look-ups in none, sums, equal ones, keys in order.
-/
import Derived.Test.YtaeppimldbknhaaZMpR
import Derived.Test.YtaeppimldbknhaaZShelfI
namespace Go.Proofs.Ytaeppimldbknhaa
set_option linter.unusedSimpArgs false
set_option linter.unusedVariables false
open Go.RowKit Go.Maps Go.Sort Go.Shelf
set_option linter.unusedVariables false

theorem run_look_nil (w : World) (t : TypeId) (ht : Try.prog.underlying t = some (.map 3 9)) (z : Int) (hz : (Lit.int .i64 z).wf = true) : (Instr.lookup t (.map none) (.int .i64 z) true).run Try.prog w = .ok (.tuple #[.string ⟨#[]⟩, .bool false]) w := by
  have hzv : (zeroValue 9).run Try.prog w = .ok (.string ⟨#[]⟩) w := by kernel_rfl
  have hck := MapKept.run_checkKey (P := Try.prog) (w := w) (kt := 3) (d := .int .i64) (k := .int .i64 z) Try.underlying3 (by simp [MapKept.IsKey]) true 9999
  have hfk := MapKept.run_findKey (P := Try.prog) (w := w) (kt := 3) (d := .int .i64) (k := .int .i64 z) (l := []) (a := none) Try.underlying3 rfl
  simp only [Instr.lookup, Sem.run_bind, run_underlying ht, Result.andThen_ok, Sem.run_pure]
  rw [show (#[] : Array MapEntry).isEmpty = true from rfl, hck]
  simp only [Result.andThen_ok, Sem.run_bind]
  rw [hfk]
  simp only [Result.andThen_ok, Sem.run_bind, hzv, Sem.run_pure]
  rfl
theorem SL.mpLookNil {n : Nat} {ops : Array Oper} {Q : Post} {l : List Oper} {e : Nat → Value} {w : World} {o : Oper} {t : TypeId} {m x : Operand} {z : Int} (hg : o.guard = none) (hd : dok n o.dst = true)
    (ho : o.op = .lookup t m x true) (hm : evE e m = .map none) (hx : evE e x = .int .i64 z) (ht : Try.prog.underlying t = some (.map 3 9)) (hz : (Lit.int .i64 z).wf = true)
    (h : SL Try.prog n ops Q l (dput e o.dst (.tuple #[.string (bsl []), .bool false])) w) : SL Try.prog n ops Q (o :: l) e w := by
  refine SL.val hg hd ?_ h
  unfold execOp
  simp only [ho, hm, hx, Sem.run_bind, run_look_nil w t ht z hz, Result.andThen_ok, Sem.run_pure]
  rfl
theorem key_inv {x : Int} {kl : Lit} (h : keyOf Try.prog 3 (.int .i64 x) = some kl) : kl = .int .i64 x ∧ (Lit.int .i64 x).wf = true := by
  obtain ⟨x', e, rfl, hw⟩ := Maps.keyOf_int_inv Try.underlying3 h
  injection e with _ e
  subst e
  exact ⟨rfl, hw⟩
/-! ### sums -/
def sumE : DataW Unit → Nat
  | .lit (.string l) => sumB l
  | _ => 0
def sumS (es : List (Lit × DataW Unit)) (left : Lit → Bool) : Nat := ((es.filter fun p => left p.1).map fun p => sumE p.2).sum
theorem sumS_cons (p : Lit × DataW Unit) (es : List (Lit × DataW Unit)) (left : Lit → Bool) : sumS (p :: es) left = (if left p.1 = true then sumE p.2 else 0) + sumS es left := by
  unfold sumS
  rw [List.filter_cons]
  cases left p.1 <;> simp
theorem sumS_step {kl : Lit} {left : Lit → Bool} (hl : left kl = true) {y : DataW Unit} : ∀ {es : List (Lit × DataW Unit)}, es.Pairwise (fun p q => p.1 ≠ q.1) → (kl, y) ∈ es → kl.sameKey kl = true → sumS es left = sumS es (fun z => left z && !z.sameKey kl) + sumE y
  | [], _, hm, _ => by simp at hm
  | p :: es, hp, hm, hk => by
    rw [sumS_cons, sumS_cons]
    rw [List.pairwise_cons] at hp
    rcases List.mem_cons.1 hm with rfl | hm
    · have he : ∀ q ∈ es, q.1.sameKey kl = false := fun q hq => sameKey_ne fun e => hp.1 q hq e.symm
      have : sumS es left = sumS es (fun z => left z && !z.sameKey kl) := by
        unfold sumS
        congr 2
        refine List.filter_congr fun q hq => ?_
        show left q.1 = (left q.1 && !q.1.sameKey kl)
        rw [he q hq]; simp
      simp only [hl, hk, this]
      simp
      omega
    · have hne : p.1 ≠ kl := fun e => hp.1 _ hm e
      rw [sumS_step hl hp.2 hm hk, sameKey_ne hne]
      simp only [Bool.not_false, Bool.and_true]
      omega
def sumLeft (D : DataW Unit) (left : Lit → Bool) : Nat := match D with
  | .map es => sumS es left
  | _ => 0
theorem MapOk.sumStep {D : DataW Unit} (h : MapOk D) {kl : Lit} {left : Lit → Bool} {t : List UInt8} (hl : left kl = true) (hat : ∀ zd, D.atKey kl zd = .lit (.string (bsl t).data.toList)) : sumLeft D left = sumLeft D (fun z => left z && !z.sameKey kl) + sumB t := by
  rw [bsl_list] at hat
  obtain ⟨es, rfl, hp, hk⟩ := h.ex
  have hm := mem_of_at hat
  exact sumS_step hl hp hm (WideAt.sameKey_self (hk _ hm))
theorem sumLeft_first (l : List Mac) : sumLeft (macD l) (Maps.has (macD l)) = sumL l := by
  unfold sumLeft macD sumL sumS
  simp only
  rw [List.filter_eq_self.2 fun p hp => ?_, List.map_map]
  · rfl
  · rw [has_eq]
    obtain ⟨q, hq, rfl⟩ := List.mem_map.1 hp
    exact List.any_eq_true.2 ⟨_, hp, by simp [macE, same_i]⟩
theorem sumLeft_last {D : DataW Unit} (h : MapOk D) {left : Lit → Bool} (hl : ∀ kl, left kl = false) : sumLeft D left = 0 := by
  obtain ⟨es, rfl, hp, hk⟩ := h.ex
  show sumS es left = 0
  unfold sumS
  rw [List.filter_eq_nil_iff.2 fun p _ => by rw [hl]; simp]
  rfl
theorem wrap16 (a b : Nat) : IntKind.u16.wrap (((a : Nat) : Int) + ((b : Nat) : Int)) = (((a + b) % 65536 : Nat) : Int) := by
  have h : IntKind.u16.wrap (((a : Nat) : Int) + ((b : Nat) : Int)) = (((a : Nat) : Int) + ((b : Nat) : Int)) % 65536 := by
    simp [IntKind.wrap, IntKind.bits, IntKind.signed]
  rw [h]; omega
/-! ### equal ones -/
theorem getL_rise {l : List Mac} (h : riseL l) {p : Mac} (hp : p ∈ l) : getL l p.1 = some p.2 := by
  induction l with
  | nil => simp at hp
  | cons q l ih =>
    have hq := List.pairwise_cons.1 h
    rcases List.mem_cons.1 hp with rfl | hp
    · simp [getL]
    · have hne : ¬ q.1 = p.1 := by have := hq.1 p hp; omega
      have := ih hq.2 hp
      unfold getL at this ⊢
      rw [List.find?_cons_of_neg (by simpa using hne), this]
theorem list_of_get {l m : List Mac} (hl : riseL l) (hm : riseL m) (hn : l.length = m.length) (h : ∀ x t, getL l x = some t → getL m x = some t) : l = m := by
  have h1 : ∀ p ∈ l, p ∈ m := fun p hp => getL_mem (h _ _ (getL_rise hl hp))
  have hnd : ∀ {k : List Mac}, riseL k → k.Nodup := fun hk => List.Pairwise.imp (fun {a b} hab e => by rw [e] at hab; omega) hk
  have h2 : ∀ p ∈ m, p ∈ l := fun p hp => by
    refine Classical.byContradiction fun hn' => ?_
    have hs : (p :: l) ⊆ m := fun q hq => by
      rcases List.mem_cons.1 hq with rfl | hq
      · exact hp
      · exact h1 q hq
    have := (List.nodup_cons.2 ⟨hn', hnd hl⟩).length_le_of_subset hs
    simp at this
    omega
  refine macD_inj (congrArg DataW.map (eq_of_mem_rising ?_ ?_ fun p => ?_))
  · rw [List.pairwise_map]; exact hl.imp fun {a b} hab => by simp [macE, Lit.before, hab]
  · rw [List.pairwise_map]; exact hm.imp fun {a b} hab => by simp [macE, Lit.before, hab]
  · constructor
    · intro hp; obtain ⟨q, hq, rfl⟩ := List.mem_map.1 hp; exact List.mem_map_of_mem (h1 q hq)
    · intro hp; obtain ⟨q, hq, rfl⟩ := List.mem_map.1 hp; exact List.mem_map_of_mem (h2 q hq)
theorem at_get {l : List Mac} {x : Int} {t : List UInt8} (hat : ∀ zd, (macD l).atKey (.int .i64 x) zd = .lit (.string (bsl t).data.toList)) : getL l x = some t := by
  have h1 := hat (.lit (.bool true))
  rw [macD_at, bsl_list] at h1
  cases hg : getL l x with
  | none => rw [hg] at h1; simp at h1
  | some s => rw [hg] at h1; simp at h1; rw [h1]
/-! ### keys in order -/
theorem sorts_any (m : Nat) : AnyZI.SortsIn Try.prog Try.sortedI_ren Fence.wide m :=
  ⟨fun blk off cap ss W hH hblk hsz => callsIn_wide.2 (AnyM.slices_Sort_int Try.sortI blk off cap ss W hH hblk hsz),
   fun p cap W => callsIn_wide.2 (AnyM.slices_Sort_int_none Try.sortI p cap W)⟩
theorem keys_any (ob : Option Nat) (w : World) : Calls Try.prog 52 #[.map ob] w fun e w' => ∃ g, e = .returned (.func (.func 64) #[] #[.pointer (some ⟨g, 0, none⟩)]) ∧ w'.heap[g]? = some (.cells #[.map ob] 33 (0, 0)) ∧ w.heap.size ≤ g ∧ Gr w w' := by
  have h := callsIn_wide.1 (AnyZI.keys_in Try.keysI Fence.wide 5 trivial rfl ob w)
  refine h.mono fun e w' hx => ?_
  obtain ⟨rfl, rfl⟩ := hx
  exact ⟨_, rfl, heap_alloc_new _ _, Nat.le_refl _, (Gr.refl w).alloc _⟩
theorem intKeys_mac (l : List Mac) : intKeys (macD l) = l.map (·.1) := by
  unfold intKeys macD
  simp only
  rw [List.map_map]
  rfl
theorem sort_mac {l : List Mac} (hl : riseL l) {ss : List Int} (hp : ss.Perm (l.map (·.1))) : (ss.mergeSort fun x y => decide (x ≤ y)) = l.map (·.1) := by
  have h1 : (l.map (·.1)).Pairwise (fun x y : Int => x < y) := by rw [List.pairwise_map]; exact hl
  refine List.Perm.eq_of_pairwise (le := fun x y : Int => x ≤ y) ?_ ?_ ?_ ((List.mergeSort_perm _ _).trans hp)
  · intro a b _ _ h1 h2; omega
  · have := List.pairwise_mergeSort (le := fun x y : Int => decide (x ≤ y)) (fun a b c h1 h2 => by simp at *; omega) (fun a b => by simp; omega) ss
    exact this.imp fun h => by simpa using h
  · exact h1.imp fun h => by omega
end Go.Proofs.Ytaeppimldbknhaa
