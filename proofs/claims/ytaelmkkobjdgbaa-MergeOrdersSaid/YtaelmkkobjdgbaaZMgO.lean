/-
  Sources that come in, opened.
  The order of merged items: the plain law; contracts over pieces.
  awake, walked (gen_mgo.py).
-/
import Derived.Test.YtaelmkkobjdgbaaZMgL
namespace Go.Proofs.Ytaelmkkobjdgbaa
set_option linter.unusedSimpArgs false
set_option linter.unusedVariables false
open Go.ChangeShapes Go.WideShapes Go.Deep Go.RowKit
set_option linter.unusedVariables false

theorem item_trod {H : Type} {enc : TypeId × Value → H} {w : World} {base fuel : Nat} {held : Bool} {cs : List Value} {y : DataW H × List MemPlace}
    (hf : DataW.trod enc Try.prog w base (fun _ => true) held fuel 30 cs = some y) (hl : cs.length = 9) : ∃ x : Itm, cs = itC x ∧ ItIn w x := by
  have hC : Try.prog.cellsOf 30 = 9 := by kernel_rfl
  have hC1 : Try.prog.cellsOf 3 = 1 := by kernel_rfl
  have hC2 : Try.prog.cellsOf 5 = 1 := by kernel_rfl
  have hC3 : Try.prog.cellsOf 26 = 1 := by kernel_rfl
  have hC4 : Try.prog.cellsOf 4 = 1 := by kernel_rfl
  have hC5 : Try.prog.cellsOf 28 = 4 := by kernel_rfl
  match cs, hl with
  | [x0, x1, x2, x3, x4, x5, x6, x7, x8], _ =>
    obtain ⟨xs, n, _, hx, _, hlen, hg⟩ := DataW.trod_struct Try.underlying30 hf
    match xs, hlen with
    | [y0, y1, y2, y3, y4, y5], _ =>
      have q0 := hg 0 _ rfl
      have q1 := hg 1 _ rfl
      have q2 := hg 2 _ rfl
      have q3 := hg 3 _ rfl
      have q4 := hg 4 _ rfl
      have q5 := hg 5 _ rfl
      simp [hC1, hC2, hC3, hC4, hC5, Value.cells] at q0 q1 q2 q3 q4 q5
      obtain ⟨at_, e0, _, w0⟩ := DataW.trod_int Try.underlying3 q0
      obtain ⟨kd, e1, _, w1⟩ := DataW.trod_int Try.underlying3 q1
      obtain ⟨rw_, e4, _, w4⟩ := DataW.trod_int Try.underlying3 q4
      obtain ⟨cl, e5, _, w5⟩ := DataW.trod_int Try.underlying3 q5
      obtain ⟨zs, n2, _, hx2, _, hlen2, hg2⟩ := DataW.trod_struct Try.underlying28 q3
      match zs, hlen2 with
      | [z0, z1, z2, z3], _ =>
        have p0 := hg2 0 _ rfl
        have p1 := hg2 1 _ rfl
        have p2 := hg2 2 _ rfl
        have p3 := hg2 3 _ rfl
        simp [hC1, hC2, hC4, Value.cells] at p0 p1 p2 p3
        obtain ⟨k0, f0, _, v0⟩ := DataW.trod_int Try.underlying3 p0
        obtain ⟨k1, f1, _, v1⟩ := DataW.trod_int Try.underlying5 p1
        obtain ⟨k2, f2, _⟩ := DataW.trod_bool Try.underlying4 p2
        obtain ⟨k3, f3, _⟩ := DataW.trod_bool Try.underlying4 p3
        simp at e0 e1 e4 e5 f0 f1 f2 f3
        subst e0 e1 e4 e5 f0 f1 f2 f3
        obtain ⟨a, n9, c9, zz, e2, r2⟩ : ∃ a n c zz, x2 = .slice a n c ∧ IsRow .u8 w a n c zz := by
          rcases open_ints Try.underlying26 Try.underlying5 (by kernel_rfl) q2 with ⟨hcs, _⟩ | ⟨x, ln, cp, zs, hcs, _, hl, hm, hz, hd, hcell, hwz⟩
          · simp at hcs
            exact ⟨none, 0, 0, [], hcs, .inl ⟨rfl, rfl, rfl, rfl⟩⟩
          · simp at hcs hz
            exact ⟨some x, ln, cp, zs, hcs, .inr ⟨x, rfl, hl, hm, hz, hcell, hwz⟩⟩
        subst e2
        obtain ⟨d1, d2, d3, d4, d5⟩ := data_of r2
        refine ⟨⟨at_, kd, a, c9, k0, k1, k2, k3, rw_, cl, zz.take n9⟩, ?_, ⟨d1, by rw [d2]; exact d3, d4, d5, ?_, v0, v1⟩⟩
        · show _ = [_, _, Value.slice a (zz.take n9).length c9, _, _, _, _, _, _]
          rw [d2]
        · have := bounds_u8 v1
          show 0 ≤ k1 ∧ k1 < 256
          omega
/-- A row of items lies in one block. -/
theorem plain_of {w : World} {x : Addr} {v : Value} (h : w.cell? (x.add 0) = some v) : ∃ b off C T fr, x = ⟨b, off, none⟩ ∧ w.heap[b]? = some (.cells C T fr) := by
  obtain ⟨b, off, s⟩ := x
  cases s with
  | none =>
    have h : w.cell? ⟨b, off, none⟩ = some v := by simpa [Addr.add] using h
    unfold World.cell? at h
    simp only at h
    split at h
    · rename_i C T fr hb
      exact ⟨b, off, C, T, fr, rfl, hb⟩
    · cases h
  | some y =>
    have : (⟨b, off, some y⟩ : Addr).add 0 = ⟨b, off, some y⟩ := by unfold Addr.add; simp
    rw [this] at h
    unfold World.cell? at h
    split at h <;> simp at h
theorem cell_at {w : World} {b o : Nat} {C : Array Value} {T : TypeId} {fr : Nat × Nat} {v : Value} (hb : w.heap[b]? = some (.cells C T fr)) (h : w.cell? ⟨b, o, none⟩ = some v) : C[o]? = some v := by
  unfold World.cell? at h
  simp only [hb] at h
  simpa using h
theorem list_trod {H : Type} {enc : TypeId × Value → H} {w : World} {base fuel : Nat} {held : Bool} {v : Value} {y : DataW H × List MemPlace}
    (hf : DataW.trod enc Try.prog w base (fun _ => true) held fuel 25 [v] = some y) :
    ∃ e : LE, v = lC e ∧ (0 < e.xs.length → ∃ b off, e.a = some ⟨b, off, none⟩ ∧ RowAt w b off e.xs) ∧ (∀ x ∈ e.xs, ItIn w x) ∧ e.xs.length ≤ maxLen := by
  have hC : Try.prog.cellsOf 30 = 9 := by kernel_rfl
  rcases open_slice Try.underlying25 hf with ⟨h0, _⟩ | ⟨a, len, cap, m, n, D, Pl, hcs, hb, hl, hm, hmm, hx, hi⟩
  · simp at h0
    exact ⟨⟨none, 0, []⟩, h0, fun h => absurd h (by simp), by simp, Nat.zero_le _⟩
  · simp at hcs
    subst hcs
    simp at hmm
    rw [hC] at hi
    have key : ∀ i : Fin len, ∃ x : Itm, (∀ j v, (itC x)[j]? = some v → w.cell? (a.add (i.val * 9 + j)) = some v) ∧ ItIn w x := by
      intro ⟨i, hil⟩
      obtain ⟨cs', hc, ht⟩ := hi i (by omega)
      obtain ⟨_, hcl, hat⟩ := World.cells?_some hc
      obtain ⟨x, hxc, hxi⟩ := item_trod ht hcl
      refine ⟨x, fun j v hj => ?_, hxi⟩
      rw [← hxc] at hj
      have hjl : j < 9 := by have := (List.getElem?_eq_some_iff.1 hj).1; omega
      have := hat j hjl
      rw [hj, add_add] at this
      exact this
    have hlen : (List.ofFn fun i : Fin len => Classical.choose (key i)).length = len := by simp
    have hget : ∀ i (h : i < len), (List.ofFn fun i : Fin len => Classical.choose (key i)).getD i itm0 = Classical.choose (key ⟨i, h⟩) := fun i h => by
      rw [List.getD_eq_getElem?_getD, List.getElem?_eq_getElem (by omega), Option.getD_some, List.getElem_ofFn]
    refine ⟨⟨some a, cap, List.ofFn fun i : Fin len => Classical.choose (key i)⟩, ?_, fun h0 => ?_, fun x hx => ?_, by show (List.ofFn _).length ≤ maxLen; rw [hlen]; omega⟩
    · show _ = Value.slice (some a) (List.ofFn _).length cap
      rw [hlen]
    · have h0 : 0 < len := by rw [← hlen]; exact h0
      have k0 : w.cell? (a.add 0) = some (.int .i64 (Classical.choose (key ⟨0, h0⟩)).at_) := (Classical.choose_spec (key ⟨0, h0⟩)).1 0 _ rfl
      obtain ⟨b, off, C, T, fr, rfl, hbl⟩ := plain_of k0
      have ea : ∀ q, (⟨b, off, none⟩ : Addr).add q = ⟨b, off + q, none⟩ := fun q => by rcases q with _ | q <;> simp [Addr.add]
      refine ⟨b, off, rfl, C, T, fr, hbl, fun i hi => ?_⟩
      have hi : i < len := by rw [← hlen]; exact hi
      rw [hget i hi]
      have hs := (Classical.choose_spec (key ⟨i, hi⟩)).1
      refine List.ext_getElem? fun j => ?_
      rw [List.getElem?_take, List.getElem?_drop, Array.getElem?_toList]
      by_cases hj : j < 9
      · rw [if_pos hj]
        have hlj : j < (itC (Classical.choose (key ⟨i, hi⟩))).length := hj
        have h1 := hs j _ (List.getElem?_eq_getElem hlj)
        have h2 := cell_at (o := off + (i * 9 + j)) hbl (by rw [← ea]; exact h1)
        rw [List.getElem?_eq_getElem hlj, ← h2, Nat.add_assoc]
      · rw [if_neg hj, List.getElem?_eq_none (by show 9 ≤ j; omega)]
    · obtain ⟨i, hi, rfl⟩ := List.mem_iff_getElem.1 hx
      rw [List.getElem_ofFn]
      exact (Classical.choose_spec (key _)).2
/-- Sources that came in. -/
structure NestIn (w : World) (a : Option Addr) (Ls : List LE) : Prop where
  out : OutAt w a Ls
  lf : LF Ls w
  items : ∀ e ∈ Ls, ∀ x ∈ e.xs, ItIn w x
  len : Ls.length ≤ maxLen
  lens : ∀ e ∈ Ls, e.xs.length ≤ maxLen
theorem open_nest {H : Type} {enc : TypeId × Value → H} {w : World} {base b0 : Nat} {held : Bool} {r : Reach} {v : Value} {d : DataW H} {p : List MemPlace}
    (hv : Value.okWide Try.prog w r b0 22 v) (h : DataW.Trod enc Try.prog w base (fun _ => true) held 22 v d p) (hs : ∀ n ∈ d.weights Try.prog 22, n ≤ reachBytes) :
    ∃ (a : Option Addr) (c : Nat) (Ls : List LE), v = .slice a Ls.length c ∧ NestIn w a Ls := by
  obtain ⟨a0, n0, c0, rfl⟩ := okWide_slice Try.underlying22 hv
  obtain ⟨fuel, hf⟩ := h
  rcases open_slice1 Try.underlying22 (by kernel_rfl) hf with ⟨h0, _⟩ | ⟨a, len, cap, m, n, V, D, Pl, hcs, hb, hl, hm, hmm, hx, hi⟩
  · simp [Value.cells] at h0
    obtain ⟨rfl, rfl, rfl⟩ := h0
    exact ⟨none, 0, [], rfl, ⟨fun h => absurd h (by simp), by intro e he; simp at he, by simp, Nat.zero_le _, by simp⟩⟩
  · simp [Value.cells] at hcs
    obtain ⟨rfl, rfl, rfl⟩ := hcs
    simp at hmm
    have key : ∀ i : Fin n0, ∃ e : LE, w.cell? (a.add i.val) = some (lC e) ∧ (0 < e.xs.length → ∃ b off, e.a = some ⟨b, off, none⟩ ∧ RowAt w b off e.xs) ∧ (∀ x ∈ e.xs, ItIn w x) ∧ e.xs.length ≤ maxLen := by
      intro ⟨i, hil⟩
      obtain ⟨h1, h2⟩ := hi i (by omega)
      obtain ⟨e, he, h3⟩ := list_trod h2
      exact ⟨e, by rw [← he]; exact h1, h3⟩
    have hlen : (List.ofFn fun i : Fin n0 => Classical.choose (key i)).length = n0 := by simp
    have hget : ∀ i (h : i < n0), (List.ofFn fun i : Fin n0 => Classical.choose (key i)).getD i le0 = Classical.choose (key ⟨i, h⟩) := fun i h => by
      rw [List.getD_eq_getElem?_getD, List.getElem?_eq_getElem (by omega), Option.getD_some, List.getElem_ofFn]
    have hmem : ∀ e ∈ (List.ofFn fun i : Fin n0 => Classical.choose (key i)), (0 < e.xs.length → ∃ b off, e.a = some ⟨b, off, none⟩ ∧ RowAt w b off e.xs) ∧ (∀ x ∈ e.xs, ItIn w x) ∧ e.xs.length ≤ maxLen := fun e he => by
      obtain ⟨i, hi, rfl⟩ := List.mem_iff_getElem.1 he
      rw [List.getElem_ofFn]
      exact (Classical.choose_spec (key _)).2
    refine ⟨some a, c0, List.ofFn fun i : Fin n0 => Classical.choose (key i), by rw [hlen], ⟨fun h0 => ?_, fun e he => ⟨(hmem e he).1, fun x hx => ((hmem e he).2.1 x hx).data⟩, fun e he => (hmem e he).2.1, by omega, fun e he => (hmem e he).2.2⟩⟩
    have h0 : 0 < n0 := by rw [← hlen]; exact h0
    obtain ⟨b, off, C, T, fr, rfl, hbl⟩ := plain_of (Classical.choose_spec (key ⟨0, h0⟩)).1
    have ea : ∀ q, (⟨b, off, none⟩ : Addr).add q = ⟨b, off + q, none⟩ := fun q => by rcases q with _ | q <;> simp [Addr.add]
    refine ⟨b, off, C, T, fr, rfl, hbl, fun k hk => ?_⟩
    have hk : k < n0 := by rw [← hlen]; exact hk
    rw [hget k hk]
    have := (Classical.choose_spec (key ⟨k, hk⟩)).1
    exact cell_at (o := off + k) hbl (by rw [← ea]; exact this)
end Go.Proofs.Ytaelmkkobjdgbaa

namespace Go.Proofs.Ytaelmkkobjdgbaa
set_option linter.unusedSimpArgs false
set_option linter.unusedVariables false
open Go.RowKit
set_option linter.unusedVariables false

def numsD (q : List QE) : Prop := (q.map fun e => e.n).Nodup
theorem MRel.unique : ∀ {q : List QE} {l l' : List (Itm × Nat)}, MRel q l → MRel q l' → numsD q → l = l' := by
  intro q l l' h
  induction h generalizing l' with
  | nil =>
    intro h' _
    cases h' with
    | nil => rfl
    | cons hp _ _ => exact absurd hp.length_eq (by simp)
  | @cons q r e l hp hmin h ih =>
    intro h' hd
    cases h' with
    | nil => exact absurd hp.length_eq (by simp)
    | @cons _ r' e' l' hp' hmin' h' =>
      have he : e ∈ q := hp.mem_iff.2 (by simp)
      have he' : e' ∈ q := hp'.mem_iff.2 (by simp)
      have hk1 := hmin e' he'
      have hk2 := hmin' e he
      rw [keyLt_false] at hk1 hk2
      have hn : e.n = e'.n := by omega
      have hee : e = e' := by
        obtain ⟨i, hi, rfl⟩ := List.mem_iff_getElem.1 he
        obtain ⟨j, hj, rfl⟩ := List.mem_iff_getElem.1 he'
        have := (List.getElem_inj (i := i) (j := j) (h₀ := by simpa using hi) (h₁ := by simpa using hj) hd).1 (by simpa using hn)
        subst this
        rfl
      subst hee
      have hr : r'.Perm r := (List.perm_cons e).1 (hp'.symm.trans hp)
      have h2 : MRel (if 0 < (tailE e).xs.length then tailE e :: r else r) l' := h'.perm (by split; exact (List.perm_cons _).2 hr.symm; exact hr.symm)
      have hd1 : numsD (e :: r) := by
        unfold numsD at hd ⊢
        exact ((hp.map _).nodup_iff).1 hd
      rw [ih h2 (by
        split
        · exact hd1
        · unfold numsD at hd1 ⊢
          rw [List.map_cons, List.nodup_cons] at hd1
          exact hd1.2)]
theorem headsF_ge : ∀ {l : List LE} {n : Nat}, ∀ e ∈ headsF n l, n ≤ e.n
  | [], n, e, h => by simp [headsF] at h
  | x :: l, n, e, h => by
    unfold headsF at h
    split at h
    · rcases List.mem_cons.1 h with rfl | h
      · exact Nat.le_refl _
      · have := headsF_ge e h; omega
    · have := headsF_ge e h; omega
theorem headsF_nums : ∀ (l : List LE) (n : Nat), numsD (headsF n l)
  | [], n => List.nodup_nil
  | x :: l, n => by
    unfold headsF
    split
    · unfold numsD
      rw [List.map_cons, List.nodup_cons]
      refine ⟨fun h => ?_, headsF_nums l (n + 1)⟩
      obtain ⟨f, hf, he⟩ := List.mem_map.1 h
      have := headsF_ge f hf
      have he : f.n = n := he
      omega
    · exact headsF_nums l (n + 1)
theorem ordP_at {ps : List Pl} {i : Nat} (h : i < ps.length) : (ordP ps).getD i (itm0, 0) = ((ps.getD i pl0).x, (ps.getD i pl0).n) := by
  unfold ordP
  rw [List.getD_eq_getElem?_getD, List.getElem?_map, List.getD_eq_getElem?_getD, List.getElem?_eq_getElem h]
  rfl
end Go.Proofs.Ytaelmkkobjdgbaa

namespace Go.Proofs.Ytaelmkkobjdgbaa
set_option linter.unusedSimpArgs false
set_option linter.unusedVariables false
open Go.RowKit
set_option linter.unusedVariables false

theorem merge_tr (sb soff sc : Nat) (C : Array Value) (T : TypeId) (fr : Nat × Nat) (Ls : List LE) (w : World) (hb0 : w.heap[sb]? = some (.cells C T fr)) (hsrc : ∀ k, k < Ls.length → C[soff + k]? = some (.slice (Ls.getD k le0).a (Ls.getD k le0).xs.length (Ls.getD k le0).c)) (hLI : LI Ls w) (hn0 : Ls.length ≤ 1000) (ht0 : totQ (headsF 0 Ls) ≤ 100000) :
    Tr Try.prog 7 #[.slice (some ⟨sb, soff, none⟩) Ls.length sc] w [] (fun v Q => ∃ (ao : Option Addr) (co : Nat) (ps : List Pl), v = .slice ao ps.length co ∧ MRel (headsF 0 Ls) (ordP ps) ∧ ps.length = totQ (headsF 0 Ls) ∧ Q = [rowH 39 10 ao ps.length co (pcells ps), allH (ps.map clH)]) :=
  Tr.of0 ((merge_n sb soff sc C T fr Ls w hb0 hsrc hLI hn0 ht0).mono fun e w' h => by
    obtain ⟨ao, co, ps, rfl, h1, h2, h3⟩ := h
    exact ⟨_, _, rfl, ⟨ao, co, ps, rfl, h1, h2, rfl⟩, h3⟩)
theorem merge_tr0 (sa : Option Addr) (sc : Nat) (w : World) : Tr Try.prog 7 #[.slice sa 0 sc] w [] (fun v Q => ∃ (ao : Option Addr) (co : Nat) (ps : List Pl), v = .slice ao ps.length co ∧ MRel [] (ordP ps) ∧ ps.length = 0 ∧ Q = [rowH 39 10 ao ps.length co (pcells ps), allH (ps.map clH)]) :=
  Tr.of0 ((merge_0 sa sc w).mono fun e w' h => by
    obtain ⟨ao, co, ps, rfl, h1, h2, h3⟩ := h
    exact ⟨_, _, rfl, ⟨ao, co, ps, rfl, h1, h2, rfl⟩, h3⟩)
def aw (t : Int) : Itm := ⟨t, 0, none, 0, 0, 0, false, false, 0, 0, []⟩
def awL (g1 g2 : Nat) : List LE := [⟨some ⟨g1, 0, none⟩, 2, [aw 1, aw 5]⟩, ⟨some ⟨g2, 0, none⟩, 2, [aw 1, aw 2]⟩]
theorem aw_rel (g1 g2 : Nat) : MRel (headsF 0 (awL g1 g2)) [(aw 1, 0), (aw 1, 1), (aw 2, 1), (aw 5, 0)] := by
  have e0 : headsF 0 (awL g1 g2) = [⟨g1, 0, 2, [aw 1, aw 5], 0⟩, ⟨g2, 0, 2, [aw 1, aw 2], 1⟩] := rfl
  rw [e0]
  refine MRel.cons (e := ⟨g1, 0, 2, [aw 1, aw 5], 0⟩) (r := [⟨g2, 0, 2, [aw 1, aw 2], 1⟩]) (List.Perm.refl _) (fun f hf => ?_) ?_
  · simp at hf; rcases hf with rfl | rfl <;> rfl
  show MRel [⟨g1, 9, 1, [aw 5], 0⟩, ⟨g2, 0, 2, [aw 1, aw 2], 1⟩] _
  refine MRel.cons (e := ⟨g2, 0, 2, [aw 1, aw 2], 1⟩) (r := [⟨g1, 9, 1, [aw 5], 0⟩]) (List.Perm.swap _ _ _) (fun f hf => ?_) ?_
  · simp at hf; rcases hf with rfl | rfl <;> rfl
  show MRel [⟨g2, 9, 1, [aw 2], 1⟩, ⟨g1, 9, 1, [aw 5], 0⟩] _
  refine MRel.cons (e := ⟨g2, 9, 1, [aw 2], 1⟩) (r := [⟨g1, 9, 1, [aw 5], 0⟩]) (List.Perm.refl _) (fun f hf => ?_) ?_
  · simp at hf; rcases hf with rfl | rfl <;> rfl
  show MRel [⟨g1, 9, 1, [aw 5], 0⟩] _
  refine MRel.cons (e := ⟨g1, 9, 1, [aw 5], 0⟩) (r := []) (List.Perm.refl _) (fun f hf => ?_) ?_
  · simp at hf; subst hf; rfl
  exact .nil
theorem aw_at {ps : List Pl} {g1 g2 : Nat} (h : MRel (headsF 0 (awL g1 g2)) (ordP ps)) : ps.length = 4 ∧ (ps.getD 0 pl0).n = 0 ∧ (ps.getD 1 pl0).n = 1 ∧ (ps.getD 2 pl0).n = 1 ∧ (ps.getD 2 pl0).x.at_ = 2 ∧ (ps.getD 3 pl0).x.at_ = 5 := by
  have e := h.unique (aw_rel g1 g2) (headsF_nums _ _)
  have hl : ps.length = 4 := by have := congrArg List.length e; simpa [ordP] using this
  have g : ∀ i, i < 4 → ((ps.getD i pl0).x, (ps.getD i pl0).n) = [(aw 1, 0), (aw 1, 1), (aw 2, 1), (aw 5, 0)].getD i (itm0, 0) := fun i hi => by rw [← ordP_at (by omega), e]
  have g0 := g 0 (by omega)
  have g1 := g 1 (by omega)
  have g2 := g 2 (by omega)
  have g3 := g 3 (by omega)
  simp at g0 g1 g2 g3
  refine ⟨hl, by simpa using g0.2, by simpa using g1.2, by simpa using g2.2, ?_, ?_⟩
  · have := congrArg Itm.at_ g2.1; simpa [aw] using this
  · have := congrArg Itm.at_ g3.1; simpa [aw] using this
/-! ### few, own and Merge, with facts -/
theorem few_bounds {F L0 : List LE} (h : F.map LE.xs = (L0.take 8).map fewL) : F.length ≤ 8 ∧ ∀ e ∈ F, e.xs.length ≤ 12 ∧ ∀ x ∈ e.xs, x.bs.length ≤ 300 := by
  refine ⟨by have := congrArg List.length h; rw [List.length_map, List.length_map, List.length_take] at this; omega, fun e he => ?_⟩
  have h1 : e.xs ∈ (L0.take 8).map fewL := by rw [← h]; exact List.mem_map_of_mem he
  obtain ⟨y, _, hy⟩ := List.mem_map.1 h1
  rw [← hy]
  unfold fewL
  refine ⟨by rw [List.length_map, List.length_take]; omega, fun x hx => ?_⟩
  obtain ⟨z, _, rfl⟩ := List.mem_map.1 hx
  rw [fewX_bs, List.length_take]
  omega
theorem li_of {w : World} {O : List LE} (hl : LF O w) (hc : ∀ e ∈ O, 0 < e.xs.length → e.xs.length ≤ e.c) (hb : ∀ e ∈ O, ∀ x ∈ e.xs, x.bs.length ≤ 1000) : LI O w := fun e he h0 => by
  obtain ⟨b, off, ha, hr⟩ := (hl e he).1 h0
  refine ⟨b, off, ha, hc e he h0, fun i hi => ⟨(hl e he).2 _ (getDx_mem hi), hb e he _ (getDx_mem hi)⟩, ?_⟩
  have e1 : (e.qe 0).b = b := by show (e.a.getD _).block = b; rw [ha]; rfl
  have e2 : (e.qe 0).off = off := by show (e.a.getD _).off = off; rw [ha]; rfl
  rw [e1, e2]
  exact hr
theorem bare_bs {xs ys : List Itm} (h : xs.map Itm.bare = ys.map Itm.bare) {n : Nat} (hb : ∀ y ∈ ys, y.bs.length ≤ n) : ∀ x ∈ xs, x.bs.length ≤ n := fun x hx => by
  have h1 : x.bare ∈ ys.map Itm.bare := by rw [← h]; exact List.mem_map_of_mem hx
  obtain ⟨y, hy, he⟩ := List.mem_map.1 h1
  have : x.bs = y.bs := (show y.bare.bs = x.bare.bs from congrArg Itm.bs he).symm
  rw [this]
  exact hb y hy
theorem own_fact (sa : Option Addr) (sc : Nat) (Ls : List LE) (w : World) (hOut : OutAt w sa Ls) (hLF : LF Ls w) (hb8 : Ls.length ≤ 8) (hb12 : ∀ e ∈ Ls, e.xs.length ≤ 12 ∧ ∀ x ∈ e.xs, x.bs.length ≤ 300) : Calls Try.prog 8 #[.slice sa Ls.length sc] w fun e w' => ∃ O ao co, e = .returned (.slice ao O.length co) ∧ O.map bareL = Ls.map bareL ∧ OutAt w' ao O ∧ LF O w' ∧ LI O w' ∧ Gr w w' := by
  refine (own_any sa sc Ls w hOut hLF (by omega) (fun e he => by have := (hb12 e he).1; omega) (fun e he x hx => by have := (hb12 e he).2 x hx; omega)).mono fun e w' hx => ?_
  obtain ⟨O, ao, co, rfl, hsp, hs⟩ := hx
  have hdat : ∀ e ∈ O, ∀ x ∈ e.xs, DataAt w' x.da x.dc x.bs := fun e he x hx => by
    obtain ⟨f, hf⟩ := hs.get (i := 2) rfl
    obtain ⟨f1, h1⟩ := allH_at (l := O.map clL) hf _ (List.mem_map_of_mem he)
    obtain ⟨f2, h2⟩ := allH_at (l := e.xs.map clX) h1 _ (List.mem_map_of_mem hx)
    exact dataAt_row h2.1 rfl
  obtain ⟨hl, hc⟩ := lf_of hs (i := 1) rfl hdat
  refine ⟨O, ao, co, rfl, hsp, outAt_row (hs.row_at (i := 0) rfl) rfl, hl, li_of hl hc fun e he => ?_, hs.gr⟩
  have h1 : bareL e ∈ Ls.map bareL := by rw [← hsp]; exact List.mem_map_of_mem he
  obtain ⟨y, hy, hye⟩ := List.mem_map.1 h1
  exact bare_bs hye.symm fun x hx => by have := (hb12 y hy).2 x hx; omega
theorem lens_of {O Ls : List LE} (h : O.map bareL = Ls.map bareL) : (O.map fun e => e.xs.length) = Ls.map fun e => e.xs.length := by
  have e : ∀ l : List LE, (l.map fun e => e.xs.length) = (l.map bareL).map List.length := fun l => by
    rw [List.map_map]; congr 1; funext e; simp [bareL]
  rw [e, e, h]
theorem merge_f (ao : Option Addr) (co : Nat) (O : List LE) (w : World) (hO : OutAt w ao O) (hLI : LI O w) (hn : O.length ≤ 1000) (ht : totQ (headsF 0 O) ≤ 100000) :
    Tr Try.prog 7 #[.slice ao O.length co] w [] (fun v Q => ∃ (ao : Option Addr) (co : Nat) (ps : List Pl), v = .slice ao ps.length co ∧ MRel (headsF 0 O) (ordP ps) ∧ ps.length = totQ (headsF 0 O) ∧ Q = [rowH 39 10 ao ps.length co (pcells ps), allH (ps.map clH)]) := by
  rcases Nat.eq_zero_or_pos O.length with h0 | h0
  · have : O = [] := List.eq_nil_of_length_eq_zero h0
    subst this
    exact merge_tr0 ao co w
  · obtain ⟨b, off, C, T, fr, rfl, hb, hc⟩ := hO h0
    exact merge_tr b off co C T fr O w hb hc hLI hn ht
theorem sum_le (n : Nat) : ∀ {l : List Nat}, (∀ x ∈ l, x ≤ n) → l.sum ≤ l.length * n
  | [], _ => by simp
  | x :: l, h => by
    have := sum_le n (l := l) fun y hy => h y (List.mem_cons_of_mem _ hy)
    have := h x (by simp)
    rw [List.sum_cons, List.length_cons, Nat.add_mul]
    omega
set_option maxRecDepth 100000 in
set_option maxHeartbeats 4000000 in
theorem awake26 (w : World) : Calls Try.prog 5 #[] w fun e w' => e = .returned (.bool true) ∧ Gr w w' := by
  refine calls_sx (n := 50) (args := []) Try.func5 rfl rfl rfl ?_
  have hs0 := SH.none w
  refine CW.seq ?_
  refine CW.region ?_
  refine SL.v (.bool false) ?_
  refine SL.nil ?_
  refine CW.seq ?_
  refine CW.region ?_
  refine SL.v (.agg #[.int .i64 1, .int .i64 0, .slice none 0 0, .int .i64 0, .int .u8 0, .bool false, .bool false, .int .i64 0, .int .i64 0]) ?_
  refine SL.v (.agg #[.int .i64 5, .int .i64 0, .slice none 0 0, .int .i64 0, .int .u8 0, .bool false, .bool false, .int .i64 0, .int .i64 0]) ?_
  refine SL.newH (mk := fun g => .slice (some ⟨g, 0, none⟩) 2 2) (C := #[.int .i64 1, .int .i64 0, .slice none 0 0, .int .i64 0, .int .u8 0, .bool false, .bool false, .int .i64 0, .int .i64 0, .int .i64 5, .int .i64 0, .slice none 0 0, .int .i64 0, .int .u8 0, .bool false, .bool false, .int .i64 0, .int .i64 0]) (T := 37) hs0 rfl rfl (by kernel_rfl) (fun g_1 w_2 hs_3 => ?_)
  have hs_3 : SH [] w w_2 [pt g_1 #[.int .i64 1, .int .i64 0, .slice none 0 0, .int .i64 0, .int .u8 0, .bool false, .bool false, .int .i64 0, .int .i64 0, .int .i64 5, .int .i64 0, .slice none 0 0, .int .i64 0, .int .u8 0, .bool false, .bool false, .int .i64 0, .int .i64 0] 37] := hs_3
  refine SL.v (.agg #[.int .i64 1, .int .i64 0, .slice none 0 0, .int .i64 0, .int .u8 0, .bool false, .bool false, .int .i64 0, .int .i64 0]) ?_
  refine SL.v (.agg #[.int .i64 2, .int .i64 0, .slice none 0 0, .int .i64 0, .int .u8 0, .bool false, .bool false, .int .i64 0, .int .i64 0]) ?_
  refine SL.newH (mk := fun g => .slice (some ⟨g, 0, none⟩) 2 2) (C := #[.int .i64 1, .int .i64 0, .slice none 0 0, .int .i64 0, .int .u8 0, .bool false, .bool false, .int .i64 0, .int .i64 0, .int .i64 2, .int .i64 0, .slice none 0 0, .int .i64 0, .int .u8 0, .bool false, .bool false, .int .i64 0, .int .i64 0]) (T := 37) hs_3 rfl rfl (by kernel_rfl) (fun g_4 w_5 hs_6 => ?_)
  have hs_6 : SH [] w w_5 [pt g_1 #[.int .i64 1, .int .i64 0, .slice none 0 0, .int .i64 0, .int .u8 0, .bool false, .bool false, .int .i64 0, .int .i64 0, .int .i64 5, .int .i64 0, .slice none 0 0, .int .i64 0, .int .u8 0, .bool false, .bool false, .int .i64 0, .int .i64 0] 37, pt g_4 #[.int .i64 1, .int .i64 0, .slice none 0 0, .int .i64 0, .int .u8 0, .bool false, .bool false, .int .i64 0, .int .i64 0, .int .i64 2, .int .i64 0, .slice none 0 0, .int .i64 0, .int .u8 0, .bool false, .bool false, .int .i64 0, .int .i64 0] 37] := hs_6
  refine SL.newH (mk := fun g => .slice (some ⟨g, 0, none⟩) 2 2) (C := #[.slice (some ⟨g_1, 0, none⟩) 2 2, .slice (some ⟨g_4, 0, none⟩) 2 2]) (T := 49) hs_6 rfl rfl (by kernel_rfl) (fun g_7 w_8 hs_9 => ?_)
  have hs_9 : SH [] w w_8 [pt g_1 #[.int .i64 1, .int .i64 0, .slice none 0 0, .int .i64 0, .int .u8 0, .bool false, .bool false, .int .i64 0, .int .i64 0, .int .i64 5, .int .i64 0, .slice none 0 0, .int .i64 0, .int .u8 0, .bool false, .bool false, .int .i64 0, .int .i64 0] 37, pt g_4 #[.int .i64 1, .int .i64 0, .slice none 0 0, .int .i64 0, .int .u8 0, .bool false, .bool false, .int .i64 0, .int .i64 0, .int .i64 2, .int .i64 0, .slice none 0 0, .int .i64 0, .int .u8 0, .bool false, .bool false, .int .i64 0, .int .i64 0] 37, pt g_7 #[.slice (some ⟨g_1, 0, none⟩) 2 2, .slice (some ⟨g_4, 0, none⟩) 2 2] 49] := hs_9
  have hLI9 : LI (awL g_1 g_4) w_8 := by
    intro e he _
    simp only [awL, List.mem_cons, List.not_mem_nil, or_false] at he
    rcases he with rfl | rfl
    · exact ⟨g_1, 0, rfl, Nat.le_refl _, fun i hi => by match i, hi with | 0, _ => exact ⟨.inl ⟨rfl, rfl, rfl⟩, Nat.zero_le _⟩ | 1, _ => exact ⟨.inl ⟨rfl, rfl, rfl⟩, Nat.zero_le _⟩, _, _, _, (hs_9.pt_at (i := 0) rfl), fun i hi => by match i, hi with | 0, _ => rfl | 1, _ => rfl⟩
    · exact ⟨g_4, 0, rfl, Nat.le_refl _, fun i hi => by match i, hi with | 0, _ => exact ⟨.inl ⟨rfl, rfl, rfl⟩, Nat.zero_le _⟩ | 1, _ => exact ⟨.inl ⟨rfl, rfl, rfl⟩, Nat.zero_le _⟩, _, _, _, (hs_9.pt_at (i := 1) rfl), fun i hi => by match i, hi with | 0, _ => rfl | 1, _ => rfl⟩
  refine SL.callH (f := 7) (args := #[.slice (some ⟨g_7, 0, none⟩) 2 2]) (Pre := []) (Rest := [pt g_1 #[.int .i64 1, .int .i64 0, .slice none 0 0, .int .i64 0, .int .u8 0, .bool false, .bool false, .int .i64 0, .int .i64 0, .int .i64 5, .int .i64 0, .slice none 0 0, .int .i64 0, .int .u8 0, .bool false, .bool false, .int .i64 0, .int .i64 0] 37, pt g_4 #[.int .i64 1, .int .i64 0, .slice none 0 0, .int .i64 0, .int .u8 0, .bool false, .bool false, .int .i64 0, .int .i64 0, .int .i64 2, .int .i64 0, .slice none 0 0, .int .i64 0, .int .u8 0, .bool false, .bool false, .int .i64 0, .int .i64 0] 37, pt g_7 #[.slice (some ⟨g_1, 0, none⟩) 2 2, .slice (some ⟨g_4, 0, none⟩) 2 2] 49]) [] hs_9 rfl rfl (by kernel_rfl) rfl (merge_tr g_7 0 2 _ _ _ (awL g_1 g_4) w_8 ((hs_9.pt_at (i := 2) rfl)) (fun k hk => by match k, hk with | 0, _ => rfl | 1, _ => rfl) hLI9 (show 2 ≤ 1000 by decide) (show 4 ≤ 100000 by decide)) ?_
  rintro v_ Q_ w_15 ⟨a_10, c_11, ps_12, rfl, hr_13, hl_14, rfl⟩ hs_17
  have hs_17 : SH [] w w_15 [rowH 39 10 a_10 (ps_12).length c_11 (pcells ps_12), allH ((ps_12).map clH), pt g_1 #[.int .i64 1, .int .i64 0, .slice none 0 0, .int .i64 0, .int .u8 0, .bool false, .bool false, .int .i64 0, .int .i64 0, .int .i64 5, .int .i64 0, .slice none 0 0, .int .i64 0, .int .u8 0, .bool false, .bool false, .int .i64 0, .int .i64 0] 37, pt g_4 #[.int .i64 1, .int .i64 0, .slice none 0 0, .int .i64 0, .int .u8 0, .bool false, .bool false, .int .i64 0, .int .i64 0, .int .i64 2, .int .i64 0, .slice none 0 0, .int .i64 0, .int .u8 0, .bool false, .bool false, .int .i64 0, .int .i64 0] 37, pt g_7 #[.slice (some ⟨g_1, 0, none⟩) 2 2, .slice (some ⟨g_4, 0, none⟩) 2 2] 49] := hs_17
  obtain ⟨h40, h41, h42, h43, h44, h45⟩ := aw_at hr_13
  refine SL.v (.slice a_10 ((ps_12).length) c_11) ?_
  refine SL.nil ?_
  refine CW.seq ?_
  refine CW.region ?_
  refine SL.v (.slice a_10 ((ps_12).length) c_11) ?_
  refine SL.val (v := .int .i64 (((ps_12).length : Nat) : Int)) (w' := w_15) rfl rfl (by kernel_rfl) ?_
  refine SL.val (v := .bool true) (w' := w_15) rfl rfl (run_eqv (by kernel_rfl) (congrArg Value.bool (show ((((ps_12).length : Nat) : Int) == 4) = (true) from (by rw [h40]; rfl)))) ?_
  refine SL.v (.bool true) ?_
  refine SL.go ?_
  refine SL.v (.slice a_10 ((ps_12).length) c_11) ?_
  refine SL.go ?_
  obtain ⟨g_18, ha_19⟩ := hs_17.row_some (i := 0) rfl (show 0 < (ps_12).length by omega)
  refine SL.val (v := .pointer (some ⟨g_18, 0 * 10, none⟩)) (w' := w_15) rfl rfl (run_ixR (len := (ps_12).length) (cap := c_11) (q := .i64) (I := 0) (i := 0) (size := 10) ha_19 rfl (by kernel_rfl) (by kernel_rfl) rfl (by kernel_rfl) (by kernel_rfl) (by omega)) ?_
  refine SL.go ?_
  refine SL.v (.pointer (some ⟨g_18, 0 * 10 + 9, none⟩)) ?_
  refine SL.go ?_
  refine SL.load (g := g_18) (off := 0 * 10 + 9) (v := .int .i64 (((ps_12.getD 0 pl0).n : Nat) : Int)) rfl rfl rfl (by kernel_rfl) (hs_17.row_blk (i := 0) ha_19 rfl) (ldV_one (by kernel_rfl) (by kernel_rfl) (hs_17.row_one (i := 0) ha_19 rfl (pcells_get (i := 0) (j := 9) (by omega) rfl))) ?_
  refine SL.go ?_
  refine SL.val (v := .bool true) (w' := w_15) rfl rfl (run_eqv (by kernel_rfl) (congrArg Value.bool (show ((((ps_12.getD 0 pl0).n : Nat) : Int) == 0) = (true) from (by rw [h41]; rfl)))) ?_
  refine SL.v (.bool true) ?_
  refine SL.v (.bool true) ?_
  refine SL.go ?_
  refine SL.v (.slice a_10 ((ps_12).length) c_11) ?_
  refine SL.go ?_
  refine SL.val (v := .pointer (some ⟨g_18, 1 * 10, none⟩)) (w' := w_15) rfl rfl (run_ixR (len := (ps_12).length) (cap := c_11) (q := .i64) (I := 1) (i := 1) (size := 10) ha_19 rfl (by kernel_rfl) (by kernel_rfl) rfl (by kernel_rfl) (by kernel_rfl) (by omega)) ?_
  refine SL.go ?_
  refine SL.v (.pointer (some ⟨g_18, 1 * 10 + 9, none⟩)) ?_
  refine SL.go ?_
  refine SL.load (g := g_18) (off := 1 * 10 + 9) (v := .int .i64 (((ps_12.getD 1 pl0).n : Nat) : Int)) rfl rfl rfl (by kernel_rfl) (hs_17.row_blk (i := 0) ha_19 rfl) (ldV_one (by kernel_rfl) (by kernel_rfl) (hs_17.row_one (i := 0) ha_19 rfl (pcells_get (i := 1) (j := 9) (by omega) rfl))) ?_
  refine SL.go ?_
  refine SL.val (v := .bool true) (w' := w_15) rfl rfl (run_eqv (by kernel_rfl) (congrArg Value.bool (show ((((ps_12.getD 1 pl0).n : Nat) : Int) == 1) = (true) from (by rw [h42]; rfl)))) ?_
  refine SL.v (.bool true) ?_
  refine SL.v (.bool true) ?_
  refine SL.go ?_
  refine SL.v (.slice a_10 ((ps_12).length) c_11) ?_
  refine SL.go ?_
  refine SL.val (v := .pointer (some ⟨g_18, 2 * 10, none⟩)) (w' := w_15) rfl rfl (run_ixR (len := (ps_12).length) (cap := c_11) (q := .i64) (I := 2) (i := 2) (size := 10) ha_19 rfl (by kernel_rfl) (by kernel_rfl) rfl (by kernel_rfl) (by kernel_rfl) (by omega)) ?_
  refine SL.go ?_
  refine SL.v (.pointer (some ⟨g_18, 2 * 10 + 9, none⟩)) ?_
  refine SL.go ?_
  refine SL.load (g := g_18) (off := 2 * 10 + 9) (v := .int .i64 (((ps_12.getD 2 pl0).n : Nat) : Int)) rfl rfl rfl (by kernel_rfl) (hs_17.row_blk (i := 0) ha_19 rfl) (ldV_one (by kernel_rfl) (by kernel_rfl) (hs_17.row_one (i := 0) ha_19 rfl (pcells_get (i := 2) (j := 9) (by omega) rfl))) ?_
  refine SL.go ?_
  refine SL.val (v := .bool true) (w' := w_15) rfl rfl (run_eqv (by kernel_rfl) (congrArg Value.bool (show ((((ps_12.getD 2 pl0).n : Nat) : Int) == 1) = (true) from (by rw [h43]; rfl)))) ?_
  refine SL.v (.bool true) ?_
  refine SL.v (.bool true) ?_
  refine SL.go ?_
  refine SL.v (.slice a_10 ((ps_12).length) c_11) ?_
  refine SL.go ?_
  refine SL.val (v := .pointer (some ⟨g_18, 2 * 10, none⟩)) (w' := w_15) rfl rfl (run_ixR (len := (ps_12).length) (cap := c_11) (q := .i64) (I := 2) (i := 2) (size := 10) ha_19 rfl (by kernel_rfl) (by kernel_rfl) rfl (by kernel_rfl) (by kernel_rfl) (by omega)) ?_
  refine SL.go ?_
  refine SL.v (.pointer (some ⟨g_18, 2 * 10, none⟩)) ?_
  refine SL.go ?_
  refine SL.v (.pointer (some ⟨g_18, 2 * 10, none⟩)) ?_
  refine SL.go ?_
  refine SL.load (g := g_18) (off := 2 * 10) (v := .int .i64 ((ps_12.getD 2 pl0).x.at_)) rfl rfl rfl (by kernel_rfl) (hs_17.row_blk (i := 0) ha_19 rfl) (ldV_one (by kernel_rfl) (by kernel_rfl) (hs_17.row_one (i := 0) ha_19 rfl (pcells_get (i := 2) (j := 0) (by omega) rfl))) ?_
  refine SL.go ?_
  refine SL.val (v := .bool true) (w' := w_15) rfl rfl (run_eqv (by kernel_rfl) (congrArg Value.bool (show (((ps_12.getD 2 pl0).x.at_) == 2) = (true) from (by rw [h44]; rfl)))) ?_
  refine SL.v (.bool true) ?_
  refine SL.v (.bool true) ?_
  refine SL.go ?_
  refine SL.v (.slice a_10 ((ps_12).length) c_11) ?_
  refine SL.go ?_
  refine SL.val (v := .pointer (some ⟨g_18, 3 * 10, none⟩)) (w' := w_15) rfl rfl (run_ixR (len := (ps_12).length) (cap := c_11) (q := .i64) (I := 3) (i := 3) (size := 10) ha_19 rfl (by kernel_rfl) (by kernel_rfl) rfl (by kernel_rfl) (by kernel_rfl) (by omega)) ?_
  refine SL.go ?_
  refine SL.v (.pointer (some ⟨g_18, 3 * 10, none⟩)) ?_
  refine SL.go ?_
  refine SL.v (.pointer (some ⟨g_18, 3 * 10, none⟩)) ?_
  refine SL.go ?_
  refine SL.load (g := g_18) (off := 3 * 10) (v := .int .i64 ((ps_12.getD 3 pl0).x.at_)) rfl rfl rfl (by kernel_rfl) (hs_17.row_blk (i := 0) ha_19 rfl) (ldV_one (by kernel_rfl) (by kernel_rfl) (hs_17.row_one (i := 0) ha_19 rfl (pcells_get (i := 3) (j := 0) (by omega) rfl))) ?_
  refine SL.go ?_
  refine SL.val (v := .bool true) (w' := w_15) rfl rfl (run_eqv (by kernel_rfl) (congrArg Value.bool (show (((ps_12.getD 3 pl0).x.at_) == 5) = (true) from (by rw [h45]; rfl)))) ?_
  refine SL.v (.bool true) ?_
  refine SL.v (.bool true) ?_
  refine SL.nil ?_
  refine CW.ret ?_
  repeat with_reducible first | refine PThen.ret ?_ | refine PBlock.ret ?_
  refine PRet.tmp (t := 0) (v := .bool true) rfl rfl (by kernel_rfl) ?_
  exact ⟨rfl, hs_17.gr⟩
end Go.Proofs.Ytaelmkkobjdgbaa
