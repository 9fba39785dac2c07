/-
  Maps as pieces of memory: the calculus over SH (for sx.py), on the kit's laws of owned maps.
  Maps from numbers to texts, as data: how many bytes their texts have.
  Maps from numbers to texts: the calculus.
-/
import Derived.Laws.IdiomRangeMap
import Derived.Maps.OwnSet
import Derived.Maps.RangeWalk
import Derived.Test.YtaeppimldbknhaaZHe
namespace Go.Proofs.Ytaeppimldbknhaa
set_option linter.unusedSimpArgs false
set_option linter.unusedVariables false
open Go.RowKit Go.Maps
set_option linter.unusedVariables false

/-- A map of the call's own, of plain elements. -/
def mpH (P : Program) (k e : TypeId) (b n : Nat) (D : DataW Unit) : HA where
  at_ w fp := fp = [b] ∧ w.ownsMap P k (plainElem P e) b n D
  keep w w' fp h hk := ⟨h.1, by
    obtain ⟨es, c, hb, r⟩ := h.2
    exact ⟨es, c, (hk b (by rw [h.1]; simp)).trans hb, r⟩⟩
  live w fp h g hg := by
    rw [h.1] at hg
    simp at hg
    subst hg
    exact h.2.lt
/-- .. that is gone through: with the block of the round. -/
def rgH (P : Program) (k e : TypeId) (b r n : Nat) (D : DataW Unit) (left : Lit → Bool) (cnt : Nat) : HA where
  at_ w fp := fp = [b, r] ∧ w.ranges P k (plainElem P e) b r n D left cnt
  keep w w' fp h hk := ⟨h.1, by
    obtain ⟨es, c, s1, s2, c0, hb, F, h1, h2, hr, q⟩ := h.2
    exact ⟨es, c, s1, s2, c0, (hk b (by rw [h.1]; simp)).trans hb, F, h1, h2, (hk r (by rw [h.1]; simp)).trans hr, q⟩⟩
  live w fp h g hg := by
    rw [h.1] at hg
    simp at hg
    rcases hg with rfl | rfl
    · exact h.2.owns.lt
    · exact h.2.lt
section
variable {P : Program} {n : Nat} {ops : Array Oper} {Q : Post} {l : List Oper} {e : Nat → Value} {w0 w w' : World} {o : Oper} {U : List Nat} {L As : List HA}
theorem Upd.grown {b : Nat} (h : w.grownBy w' (some b)) {f : List Nat} (hb : b ∈ f) : Upd f w w' := ⟨h.os, h.tape, h.output, h.size, fun k hk hn => h.block k hk fun he => hn (by injection he with he; rw [he]; exact hb)⟩
theorem Gr.ofGrown (h : w.grownBy w' none) : Gr w w' := ⟨h.os, h.tape, h.output, h.size, fun k hk => h.block k hk (by simp)⟩
/-- New memory of whatever kind. -/
theorem SH.freshP (h : SH U w0 w As) (hg : Gr w w') {A : HA} {f : List Nat} (hA : A.at_ w' f) (hf : ∀ g ∈ f, w.heap.size ≤ g) : SH U w0 w' (As ++ [A]) := by
  obtain ⟨fp, h1, h2⟩ := h.st
  have hlive := h1.live
  refine ⟨h.upd.gr hg, fp ++ f, (h1.keep _ _ _ _ fun k hm => hg.block k (hlive k hm)).app ⟨f, [], by simp, hA, rfl, by simp⟩ fun k hk hm => ?_, fun k hk => ?_⟩
  · have := hlive k hk; have := hf k hm; omega
  · rcases List.mem_append.1 hk with hk | hk
    · exact h2 k hk
    · exact .inl (Nat.le_trans h.upd.size (hf k hk))
theorem SH.map_at (h : SH U w0 w As) {i b m : Nat} {k el : TypeId} {D : DataW Unit} (hi : As[i]? = some (mpH P k el b m D)) : w.ownsMap P k (plainElem P el) b m D := by
  obtain ⟨fp, ⟨f1, f2, rfl, h1, _⟩, _⟩ := (h.perm (perm_erase hi)).st
  exact h1.2
theorem SH.range_at (h : SH U w0 w As) {i b r m cnt : Nat} {k el : TypeId} {D : DataW Unit} {left : Lit → Bool} (hi : As[i]? = some (rgH P k el b r m D left cnt)) : w.ranges P k (plainElem P el) b r m D left cnt := by
  obtain ⟨fp, ⟨f1, f2, rfl, h1, _⟩, _⟩ := (h.perm (perm_erase hi)).st
  exact h1.2
/-- 'make(map[K]V)', a literal without entries. -/
theorem SL.mpNew (k el : TypeId) (hs : SH U w0 w L) (hg : o.guard = none) (hd : dok n o.dst = true) (hrun : (execOp (evE e) o).run P w = .ok (.value (.map (some w.heap.size))) (w.alloc (.map #[] 0)))
    (h : ∀ b w', SH U w0 w' (L ++ [mpH P k el b 0 (.map [])]) → SL P n ops Q l (dput e o.dst (.map (some b))) w') : SL P n ops Q (o :: l) e w :=
  SL.val hg hd hrun (h _ _ (hs.freshP ((Gr.refl w).alloc _) (f := [w.heap.size]) ⟨rfl, World.ownsMap_made w P k (plainElem P el)⟩ (by simp)))
/-- 'm[k] = v'. -/
theorem SL.mpPut {t k el : TypeId} {m x v : Operand} {i b c : Nat} {D : DataW Unit} {key val : Value} {kl : Lit} {d : DataW Unit} {ps : List MemPlace} {L' : List HA} (K : Keyed P k) (hs : SH U w0 w L) (hg : o.guard = none) (hd : o.dst = none)
    (ho : o.op = .mapUpdate t m x v) (hm : evE e m = .map (some b)) (hx : evE e x = key) (hv : evE e v = val) (ht : P.underlying t = some (.map k el)) (hL : L[i]? = some (mpH P k el b c D)) (hc : c < maxLen) (hkey : keyOf P k key = some kl)
    (hval : plainElem P el val = some (d, ps)) (hL' : L.set i (mpH P k el b (c + 1) (D.put kl d)) = L') (h : ∀ w', SH U w0 w' L' → SL P n ops Q l e w') : SL P n ops Q (o :: l) e w := by
  obtain ⟨w', hrun, h1, h2⟩ := (hs.map_at hL).update K ht hc hkey hval
  refine SL.skip hg hd (w' := w') ?_ (h _ (by rw [← hL']; exact hs.change hL fun f1 hf => ⟨Upd.grown h2 (by rw [hf.1]; simp), hf.1, h1⟩))
  unfold execOp
  simp only [ho, hm, hx, hv, Sem.run_bind, hrun, Result.andThen_ok, Sem.run_pure]
/-- 'v, ok := m[k]'. -/
theorem SL.mpLookOk {t k el : TypeId} {m x : Operand} {i b c : Nat} {D : DataW Unit} {key z : Value} {kl : Lit} {zd : DataW Unit} {zp : List MemPlace} (K : Keyed P k) (hs : SH U w0 w L) (hg : o.guard = none) (hd : dok n o.dst = true)
    (ho : o.op = .lookup t m x true) (hm : evE e m = .map (some b)) (hx : evE e x = key) (ht : P.underlying t = some (.map k el)) (hL : L[i]? = some (mpH P k el b c D)) (hkey : keyOf P k key = some kl)
    (hz : (zeroValue el).run P w = .ok z w) (hzd : plainElem P el z = some (zd, zp))
    (h : ∀ v ps, plainElem P el v = some (D.atKey kl zd, ps) → SL P n ops Q l (dput e o.dst (.tuple #[v, .bool (Maps.has D kl)])) w) : SL P n ops Q (o :: l) e w := by
  obtain ⟨v, ps, hrun, hv⟩ := (hs.map_at hL).look_ok K ht hz hzd hkey
  refine SL.val hg hd ?_ (h v ps hv)
  unfold execOp
  simp only [ho, hm, hx, Sem.run_bind, hrun, Result.andThen_ok, Sem.run_pure]
/-- The beginning of a round through a map. -/
theorem SL.mpRange {t k el : TypeId} {m : Operand} {i b c : Nat} {D : DataW Unit} {L' : List HA} (K : Keyed P k) (hs : SH U w0 w L) (hg : o.guard = none) (hd : dok n o.dst = true)
    (ho : o.op = .range t m) (hm : evE e m = .map (some b)) (ht : P.underlying t = some (.map k el)) (hL : L[i]? = some (mpH P k el b c D))
    (h : ∀ r w', SH U w0 w' (L.eraseIdx i ++ [rgH P k el b r c D (Maps.has D) (Maps.size D)]) → SL P n ops Q l (dput e o.dst (.pointer (some ⟨r, 0, none⟩))) w') : SL P n ops Q (o :: l) e w := by
  obtain ⟨w', hrun, h1, h2, h3⟩ := (hs.map_at hL).range K ht
  refine SL.val hg hd (w' := w') (v := .pointer (some ⟨w.heap.size, 0, none⟩)) ?_ (h _ _ (hs.become hL fun f1 hf => ⟨[b, w.heap.size], ⟨rfl, h1⟩, (Gr.ofGrown h2).updU, fun g hg' => ?_⟩))
  · unfold execOp
    simp only [ho, hm, Sem.run_bind, hrun, Result.andThen_ok, Sem.run_pure]
  · simp at hg'
    rcases hg' with rfl | rfl
    · exact .inl (by rw [hf.1]; simp)
    · exact .inr (Nat.le_refl _)
/-- A step of it: nothing is left, or an entry more. -/
theorem SL.mpNext {k el : TypeId} {it : Operand} {i b r c cnt : Nat} {D : DataW Unit} {left : Lit → Bool} (K : Keyed P k) (hs : SH U w0 w L) (hg : o.guard = none) (hd : dok n o.dst = true)
    (ho : o.op = .next it false) (hit : evE e it = .pointer (some ⟨r, 0, none⟩)) (hL : L[i]? = some (rgH P k el b r c D left cnt))
    (h0 : cnt = 0 → (∀ kl, left kl = false) → SL P n ops Q l (dput e o.dst (.tuple #[.bool false])) w)
    (h1 : ∀ key v kl y w' cnt', keyOf P k key = some kl → left kl = true → plainElem P el v = some y → (∀ zd, D.atKey kl zd = y.1) → cnt' < cnt → SH U w0 w' (L.set i (rgH P k el b r c D (fun z => left z && !z.sameKey kl) cnt')) →
      (Instr.entry (.pointer (some ⟨r, 0, none⟩))).run P w' = .ok (.tuple #[key, v]) w' → SL P n ops Q l (dput e o.dst (.tuple #[.bool true, key, v])) w') : SL P n ops Q (o :: l) e w := by
  rcases (hs.range_at hL).next K o.type with ⟨hc, hl, hrun⟩ | ⟨key, v, kl, y, w', cnt', hkey, hlk, hv, hat, hrun, hrg, hlt, hgr, hsz, hen⟩
  · refine SL.val hg hd ?_ (h0 hc hl)
    unfold execOp
    simp only [ho, hit, Sem.run_bind, hrun, Result.andThen_ok, Sem.run_pure]
  · refine SL.val hg hd (w' := w') (v := .tuple #[.bool true, key, v]) ?_ (h1 key v kl y w' cnt' hkey hlk hv hat hlt (hs.change hL fun f1 hf => ⟨Upd.grown hgr (by rw [hf.1]; simp), hf.1, hrg⟩) hen)
    unfold execOp
    simp only [ho, hit, Sem.run_bind, hrun, Result.andThen_ok, Sem.run_pure]
/-- A map that is no longer gone through. -/
theorem SH.mpDone (hs : SH U w0 w As) {i b r c cnt : Nat} {k el : TypeId} {D : DataW Unit} {left : Lit → Bool} (hL : As[i]? = some (rgH P k el b r c D left cnt)) : SH U w0 w (As.eraseIdx i ++ [mpH P k el b c D]) :=
  hs.become hL fun f1 hf => ⟨[b], ⟨rfl, hf.2.owns⟩, Upd.refl _ _, fun g hg => .inl (by rw [hf.1]; simp at hg; simp [hg])⟩
/-- 'delete(m, k)'. -/
theorem SL.mpDel {t k el : TypeId} {m x : Operand} {i b c : Nat} {D : DataW Unit} {key : Value} {kl : Lit} {L' : List HA} (K : Keyed P k) (hs : SH U w0 w L) (hg : o.guard = none) (hd : dok n o.dst = true)
    (ho : o.op = .call { callee := .builtin .delete, args := #[m, x], argTypes := #[t, k] }) (hm : evE e m = .map (some b)) (hx : evE e x = key) (ht : P.underlying t = some (.map k el)) (hL : L[i]? = some (mpH P k el b c D)) (hkey : keyOf P k key = some kl)
    (hL' : L.set i (mpH P k el b c (D.del kl)) = L')
    (h : ∀ w', SH U w0 w' L' → SL P n ops Q l (dput e o.dst (.tuple #[])) w') : SL P n ops Q (o :: l) e w := by
  obtain ⟨w', hr, h1, h2⟩ := (hs.map_at hL).drop K ht hkey o.type
  have hrun : (execOp (evE e) o).run P w = .ok (.value (.tuple #[])) w' := by
    unfold execOp
    simp [ho, hm, hx, resolve, invoke, builtin, Sem.run_bind, Sem.run_pure, Result.andThen_ok, hr]
  exact SL.val hg hd hrun (h _ (by rw [← hL']; exact hs.change hL fun f1 hf => ⟨Upd.grown h2.grown (by rw [hf.1]; simp), hf.1, h1⟩))
end
end Go.Proofs.Ytaeppimldbknhaa

namespace Go.Proofs.Ytaeppimldbknhaa
set_option linter.unusedSimpArgs false
set_option linter.unusedVariables false
open Go.RowKit Go.Maps
set_option linter.unusedVariables false

def lenD : DataW Unit → Nat
  | .lit (.string l) => l.length
  | _ => 0
def sumF (es : List (Lit × DataW Unit)) (left : Lit → Bool) : Nat := ((es.filter fun p => left p.1).map fun p => lenD p.2).sum
/-- How many bytes the texts of a map have. -/
def totD : DataW Unit → Nat
  | .map es => sumF es fun _ => true
  | _ => 0
theorem sumF_cons (p : Lit × DataW Unit) (es : List (Lit × DataW Unit)) (left : Lit → Bool) : sumF (p :: es) left = (if left p.1 = true then lenD p.2 else 0) + sumF es left := by
  unfold sumF
  rw [List.filter_cons]
  cases left p.1 <;> simp
/-- An entry more is taken out of what is left. -/
theorem sum_step {kl : Lit} {left : Lit → Bool} (hl : left kl = true) {y : DataW Unit} : ∀ {es : List (Lit × DataW Unit)}, es.Pairwise (fun p q => p.1 ≠ q.1) → (kl, y) ∈ es → kl.sameKey kl = true → sumF es left = sumF es (fun z => left z && !z.sameKey kl) + lenD y
  | [], _, hm, _ => by simp at hm
  | p :: es, hp, hm, hk => by
    rw [sumF_cons, sumF_cons]
    rw [List.pairwise_cons] at hp
    rcases List.mem_cons.1 hm with rfl | hm
    · have he : ∀ q ∈ es, q.1.sameKey kl = false := fun q hq => sameKey_ne fun e => hp.1 q hq e.symm
      have : sumF es left = sumF es (fun z => left z && !z.sameKey kl) := by
        unfold sumF
        congr 2
        refine List.filter_congr fun q hq => ?_
        show left q.1 = (left q.1 && !q.1.sameKey kl)
        rw [he q hq]; simp
      simp only [hl, hk, this]
      simp
      omega
    · have hne : p.1 ≠ kl := fun e => hp.1 _ hm e
      rw [sum_step hl hp.2 hm hk, sameKey_ne hne]
      simp only [Bool.not_false, Bool.and_true]
      omega
theorem sum_all_false {es : List (Lit × DataW Unit)} {left : Lit → Bool} (h : ∀ kl, left kl = false) : sumF es left = 0 := by
  unfold sumF
  rw [List.filter_eq_nil_iff.2 fun p _ => by rw [h]; simp]
  rfl
theorem sum_has {es : List (Lit × DataW Unit)} (hk : ∀ p ∈ es, WideAt.IsKeyLit p.1) : sumF es (has (.map es)) = sumF es fun _ => true := by
  unfold sumF
  congr 2
  refine List.filter_congr fun q hq => ?_
  rw [has_eq]
  exact List.any_eq_true.2 ⟨q, hq, WideAt.sameKey_self (hk q hq)⟩
theorem sum_perm {a b : List (Lit × DataW Unit)} (h : a.Perm b) (left : Lit → Bool) : sumF a left = sumF b left := ((h.filter _).map _).sum_nat
theorem filter_absent {es : List (Lit × DataW Unit)} {kl : Lit} (h : has (.map es) kl = false) : es.filter (ChangeMaps.notKey kl) = es := by
  refine List.filter_eq_self.2 fun p hp => ?_
  rw [has_eq] at h
  have := List.any_eq_false.1 h p hp
  unfold ChangeMaps.notKey
  simpa using this
theorem tot_put {es : List (Lit × DataW Unit)} {kl : Lit} {d : DataW Unit} (h : has (.map es) kl = false) : totD ((DataW.map es).put kl d) = totD (.map es) + lenD d := by
  rw [DataW.put_eq]
  unfold totD
  simp only
  unfold ChangeMaps.putKey
  rw [filter_absent h, sum_perm (WideShapes.insert_perm _ _), sumF_cons]
  simp
  omega
/-- A map as it is left. -/
structure MapOk (D : DataW Unit) : Prop where
  ex : ∃ es, D = .map es ∧ es.Pairwise (fun p q => p.1 ≠ q.1) ∧ ∀ p ∈ es, WideAt.IsKeyLit p.1
theorem MapOk.put {D : DataW Unit} (h : MapOk D) {kl : Lit} {d : DataW Unit} (hn : has D kl = false) : totD (D.put kl d) = totD D + lenD d := by
  obtain ⟨es, rfl, _, _⟩ := h.ex
  exact tot_put hn
theorem MapOk.del {D : DataW Unit} (h : MapOk D) {kl : Lit} (hn : has D kl = false) : D.del kl = D := del_of_not_has hn
theorem mem_of_at {es : List (Lit × DataW Unit)} {kl : Lit} {y : DataW Unit} (h : ∀ zd, (DataW.map es).atKey kl zd = y) : (kl, y) ∈ es := by
  have hh := has_true_of_atKey h
  rw [has_eq] at hh
  obtain ⟨p, hp, hk⟩ := List.any_eq_true.1 hh
  cases hf : es.find? (fun p => p.1.sameKey kl) with
  | none => exact absurd hk (by simpa using List.find?_eq_none.1 hf p hp)
  | some q =>
    have h1 := h (.lit (.bool true))
    simp only [DataW.atKey, hf] at h1
    have h2 := List.find?_some hf
    have h3 := List.mem_of_find?_eq_some hf
    have e1 : q.1 = kl := WideAt.sameKey_eq h2
    have e2 : q.2 = y := h1
    rw [← e1, ← e2]
    exact h3
/-- What is left of a map. -/
def leftD (D : DataW Unit) (left : Lit → Bool) : Nat := match D with
  | .map es => sumF es left
  | _ => 0
theorem MapOk.step {D : DataW Unit} (h : MapOk D) {kl : Lit} {left : Lit → Bool} {y : DataW Unit} (hl : left kl = true) (hat : ∀ zd, D.atKey kl zd = y) : leftD D left = leftD D (fun z => left z && !z.sameKey kl) + lenD y := by
  obtain ⟨es, rfl, hp, hk⟩ := h.ex
  have hm := mem_of_at hat
  exact sum_step hl hp hm (WideAt.sameKey_self (hk _ hm))
theorem MapOk.first {D : DataW Unit} (h : MapOk D) : leftD D (has D) = totD D := by
  obtain ⟨es, rfl, hp, hk⟩ := h.ex
  exact sum_has hk
theorem MapOk.last {D : DataW Unit} (h : MapOk D) {left : Lit → Bool} (hl : ∀ kl, left kl = false) : leftD D left = 0 := by
  obtain ⟨es, rfl, hp, hk⟩ := h.ex
  exact sum_all_false hl
end Go.Proofs.Ytaeppimldbknhaa

namespace Go.Proofs.Ytaeppimldbknhaa
set_option linter.unusedSimpArgs false
set_option linter.unusedVariables false
open Go.RowKit Go.Maps
set_option linter.unusedVariables false

theorem str_inv {P : Program} {el : TypeId} (he : P.underlying el = some .string) {v : Value} {y : DataW Unit × List MemPlace} (h : plainElem P el v = some y) : ∃ s : ByteArray, v = .string s ∧ y.1 = .lit (.string s.data.toList) ∧ s.size ≤ maxLen := by
  unfold plainElem at h
  rw [he] at h
  cases v <;> simp at h
  rename_i s
  exact ⟨s, rfl, by rw [← h.2], h.1⟩
theorem len_str (s : ByteArray) : lenD (.lit (.string s.data.toList)) = s.size := by
  show s.data.toList.length = s.size
  rw [Array.length_toList]; rfl
/-- A round through no map at all. -/
def inH (r : Nat) : HA where
  at_ w fp := fp = [r] ∧ w.heap[r]? = some (.mapIter none 0 #[] 0)
  keep w w' fp h hk := ⟨h.1, (hk r (by rw [h.1]; simp)).trans h.2⟩
  live w fp h g hg := by
    rw [h.1] at hg
    simp at hg
    subst hg
    exact heap_lt h.2
theorem run_next_no (P : Program) {w : World} {r : Nat} (ty : TypeId) (h : w.heap[r]? = some (.mapIter none 0 #[] 0)) : (Instr.next (.pointer (some ⟨r, 0, none⟩)) false ty).run P w = .ok (.tuple #[.bool false]) w := by
  simp only [Instr.next, getObj, Sem.run_bind, Sem.run, h, Result.andThen]
  rfl
section
variable {P : Program} {n : Nat} {ops : Array Oper} {Q : Post} {l : List Oper} {e : Nat → Value} {w0 w w' : World} {o : Oper} {U : List Nat} {L As : List HA}
theorem SL.mpNextS {k el : TypeId} {it : Operand} {i b r c cnt : Nat} {D : DataW Unit} {left : Lit → Bool} (K : Keyed P k) (hkt : P.underlying k = some (.int .i64)) (he : P.underlying el = some .string) (hs : SH U w0 w L) (hg : o.guard = none) (hd : dok n o.dst = true)
    (ho : o.op = .next it false) (hit : evE e it = .pointer (some ⟨r, 0, none⟩)) (hL : L[i]? = some (rgH P k el b r c D left cnt))
    (h0 : cnt = 0 → (∀ kl, left kl = false) → SL P n ops Q l (dput e o.dst (.tuple #[.bool false])) w)
    (h1 : ∀ (x : Int) (s : ByteArray) (kl : Lit) (w' : World) (cnt' : Nat), keyOf P k (.int .i64 x) = some kl → left kl = true → (∀ zd, D.atKey kl zd = .lit (.string s.data.toList)) → s.size ≤ maxLen → cnt' < cnt → SH U w0 w' (L.set i (rgH P k el b r c D (fun z => left z && !z.sameKey kl) cnt')) →
      (Instr.entry (.pointer (some ⟨r, 0, none⟩))).run P w' = .ok (.tuple #[.int .i64 x, .string s]) w' → SL P n ops Q l (dput e o.dst (.tuple #[.bool true, .int .i64 x, .string s])) w') : SL P n ops Q (o :: l) e w := by
  refine SL.mpNext K hs hg hd ho hit hL h0 fun key v kl y w' cnt' hkey hlk hv hat hlt hs' hen => ?_
  obtain ⟨x, rfl, _, _⟩ := Maps.keyOf_int_inv hkt hkey
  obtain ⟨s, rfl, hy, hsz⟩ := str_inv he hv
  exact h1 x s kl w' cnt' hkey hlk (fun zd => (hat zd).trans hy) hsz hlt hs' hen
theorem SL.mpRangeNil {t k el : TypeId} {m : Operand} (hs : SH U w0 w L) (hg : o.guard = none) (hd : dok n o.dst = true) (ho : o.op = .range t m) (hm : evE e m = .map none) (ht : P.underlying t = some (.map k el))
    (h : ∀ r w', SH U w0 w' (L ++ [inH r]) → SL P n ops Q l (dput e o.dst (.pointer (some ⟨r, 0, none⟩))) w') : SL P n ops Q (o :: l) e w := by
  refine SL.val hg hd (w' := w.alloc (.mapIter none 0 #[] 0)) (v := .pointer (some ⟨w.heap.size, 0, none⟩)) ?_ (h _ _ (hs.freshP ((Gr.refl w).alloc _) (f := [w.heap.size]) ⟨rfl, heap_alloc_new _ _⟩ (by simp)))
  unfold execOp
  simp only [ho, hm, Sem.run_bind, run_range_nilMap w t k el ht, Result.andThen_ok, Sem.run_pure]
theorem SL.mpNextNil {it : Operand} {i r : Nat} (hs : SH U w0 w L) (hg : o.guard = none) (hd : dok n o.dst = true) (ho : o.op = .next it false) (hit : evE e it = .pointer (some ⟨r, 0, none⟩)) (hL : L[i]? = some (inH r))
    (h : SL P n ops Q l (dput e o.dst (.tuple #[.bool false])) w) : SL P n ops Q (o :: l) e w := by
  obtain ⟨f, _, hb⟩ := hs.get hL
  refine SL.val hg hd ?_ h
  unfold execOp
  simp only [ho, hit, Sem.run_bind, run_next_no P o.type hb, Result.andThen_ok, Sem.run_pure]
theorem PRet.none {fn : Func} {R : Ending → World → Prop} (hr : fn.results = #[]) (h : R (.returned (.tuple #[])) w) : PRet P n fn R .normal e w := ⟨_, by simp [results, hr], h⟩
theorem run_entry {it : Operand} {v v' : Value} (ho : o.op = .entry it) (hx : evE e it = v) (hr : (Instr.entry v).run P w = .ok v' w) : (execOp (evE e) o).run P w = .ok (.value v') w := by
  subst hx
  unfold execOp
  simp only [ho, Sem.run_bind, hr, Result.andThen_ok, Sem.run_pure]
end
theorem keyI : Keyed Try.prog 3 := int_keyed Try.underlying3
theorem SH.mapOk {U : List Nat} {w0 w : World} {As : List HA} (h : SH U w0 w As) {i b m : Nat} {el : TypeId} {D : DataW Unit} (hi : As[i]? = some (mpH Try.prog 3 el b m D)) : MapOk D := ⟨(h.map_at hi).entries keyI⟩
theorem keyOf_int (x : Int) (h : (Lit.int .i64 x).wf = true) : keyOf Try.prog 3 (.int .i64 x) = some (.int .i64 x) := by
  simp [keyOf, mapKey, Try.underlying3, h]
theorem str_elem {s : ByteArray} (hs : s.size ≤ maxLen) : plainElem (H := Unit) Try.prog 9 (.string s) = some (.lit (.string s.data.toList), []) := plainElem_string Try.underlying9 hs
end Go.Proofs.Ytaeppimldbknhaa
