/-
  Macros in memory: rows of the document's list; contracts that lean on what is not theirs; look-ups.
-/
import Derived.Laws.StructEq
import Derived.Test.YtaeppimldbknhaaZMpN
import Derived.Test.YtaeppimldbknhaaZRs
import Derived.Test.YtaeppimldbknhaaZMcM
import Derived.Test.YtaeppimldbknhaaZSq
namespace Go.Proofs.Ytaeppimldbknhaa
set_option linter.unusedSimpArgs false
set_option linter.unusedVariables false
open Go.RowKit Go.Maps
set_option linter.unusedVariables false

/-! ### contracts that lean on what none of their pieces holds -/
def TrM (I : World → Prop) (P : Program) (f : FuncId) (args : Array Value) (w : World) (Pre : List HA) (R : Value → List HA → Prop) : Prop :=
  ∀ fp, HSt Pre w fp → (∀ w', Upd fp w w' → I w') → Calls P f args w fun e w' => ∃ v Q fp', e = .returned v ∧ R v Q ∧ HSt Q w' fp' ∧ Upd fp w w' ∧ ∀ g ∈ fp', g ∈ fp ∨ w.heap.size ≤ g
section
variable {P : Program} {n : Nat} {ops : Array Oper} {Q : Post} {l : List Oper} {e : Nat → Value} {w0 w w' : World} {o : Oper} {U : List Nat} {As Pre Rest : List HA} {I : World → Prop}
theorem Tr.m {f : FuncId} {args : Array Value} {R : Value → List HA → Prop} (h : Tr P f args w Pre R) : TrM I P f args w Pre R := fun fp hfp _ => h fp hfp
theorem TrM.of {f : FuncId} {args : Array Value} {R : Value → List HA → Prop} (h : ∀ U, SH U w w Pre → (∀ w', Upd U w w' → I w') → Calls P f args w fun e w' => ∃ v Q, e = .returned v ∧ R v Q ∧ SH U w w' Q) : TrM I P f args w Pre R := fun fp hfp hI => by
  refine (h fp (SH.init hfp) hI).mono fun e w' hx => ?_
  obtain ⟨v, Q, rfl, hR, hs⟩ := hx
  obtain ⟨fp', h1, h2⟩ := hs.st
  exact ⟨v, Q, fp', rfl, hR, h1, hs.upd, fun g hg => (h2 g hg).symm⟩
theorem TrM.mono {f : FuncId} {args : Array Value} {R R' : Value → List HA → Prop} (h : TrM I P f args w Pre R) (hr : ∀ v Q, R v Q → R' v Q) : TrM I P f args w Pre R' := fun fp hfp hI => (h fp hfp hI).mono fun e w' hx => by
  obtain ⟨v, Q, fp', rfl, h1, h2⟩ := hx; exact ⟨v, Q, fp', rfl, hr _ _ h1, h2⟩
theorem SH.callM {is : List Nat} {f : FuncId} {args : Array Value} {R : Value → List HA → Prop} (hI : ∀ w', Upd U w0 w' → I w') (h : SH U w0 w As) (hp : pickL is As = some (Pre, Rest)) (ht : TrM I P f args w Pre R) :
    Calls P f args w fun e w' => ∃ v Q, e = .returned v ∧ R v Q ∧ SH U w0 w' (Q ++ Rest) := by
  obtain ⟨fp, h1, h2⟩ := (h.perm (pickL_perm is As Pre Rest hp)).st
  obtain ⟨f1, f2, rfl, h3, h4, h5⟩ := h1.split
  have hcomp : ∀ w', Upd f1 w w' → Upd U w0 w' := fun w' h7 => by
    refine ⟨h7.os.trans h.upd.os, h7.tape.trans h.upd.tape, h7.output.trans h.upd.output, Nat.le_trans h.upd.size h7.size, fun k hk hn => ?_⟩
    rw [h7.block k (Nat.lt_of_lt_of_le hk h.upd.size) fun hm => ?_]
    · exact h.upd.block k hk hn
    · rcases h2 k (List.mem_append_left _ hm) with h9 | h9
      · omega
      · exact hn h9
  refine (ht f1 h3 fun w' hu => hI w' (hcomp w' hu)).mono fun e w' hx => ?_
  obtain ⟨v, Q, fp', rfl, hR, h6, h7, h8⟩ := hx
  refine ⟨v, Q, rfl, hR, hcomp w' h7, fp' ++ f2, h6.app (h4.keep _ _ _ _ fun g hg => h7.block g (h4.live _ _ _ g hg) fun hm => h5 g hm hg) fun g hg hm => ?_, fun g hg => ?_⟩
  · rcases h8 g hg with h9 | h9
    · exact h5 g h9 hm
    · have := h4.live _ _ _ g hm; omega
  · rcases List.mem_append.1 hg with hg | hg
    · rcases h8 g hg with h9 | h9
      · exact h2 g (List.mem_append_left _ h9)
      · exact .inl (Nat.le_trans h.upd.size h9)
    · exact h2 g (List.mem_append_right _ hg)
theorem SL.callHM {f : FuncId} {args : Array Value} {R : Value → List HA → Prop} (hI : ∀ w', Upd U w0 w' → I w') (is : List Nat) (hs : SH U w0 w As) (hg : o.guard = none) (hd : dok n o.dst = true) (hrun : (execOp (evE e) o).run P w = .ok (.enter f args) w)
    (hp : pickL is As = some (Pre, Rest)) (ht : TrM I P f args w Pre R) (h : ∀ v Qs w', R v Qs → SH U w0 w' (Qs ++ Rest) → SL P n ops Q l (dput e o.dst v) w') : SL P n ops Q (o :: l) e w :=
  SL.call hg hd hrun (hs.callM hI hp ht) fun x w' hx => by
    obtain ⟨v, Qs, rfl, hR, hs'⟩ := hx; exact ⟨v, rfl, h v Qs w' hR hs'⟩
/-- A byte of a text. -/
theorem run_sidxB {t : TypeId} {x y : Operand} {l : List UInt8} {q : IntKind} {J : Int} {i : Nat} (ho : o.op = .index t x y) (hx : evE e x = .string (bsl l)) (hy : evE e y = .int q J) (hI : J = (i : Int)) (ht : P.underlying t = some .string) (hi : i < l.length) :
    (execOp (evE e) o).run P w = .ok (.value (.int .u8 (((l.getD i 0).toNat : Nat) : Int))) w := by
  subst hI
  have hsz : 0 ≤ (i : Int) ∧ (i : Int) < (bsl l).size := by rw [bsl_size]; omega
  have hg : ((bsl l)[i]'(by rw [bsl_size]; exact hi)) = l.getD i 0 := by
    rw [bsl_get, List.getD_eq_getElem?_getD, List.getElem?_eq_getElem hi, Option.getD_some]
  unfold execOp
  simp only [ho, hx, hy, Sem.run_bind, run_index_string w t (bsl l) q (i : Int) ht, dif_pos hsz, Int.toNat_natCast, hg, Result.andThen_ok, Sem.run_pure]
end
theorem bsl_inj {a b : List UInt8} (h : bsl a = bsl b) : a = b := by
  have := congrArg (fun x : ByteArray => x.data.toList) h
  simpa [bsl_list] using this
theorem seqB_bsl (a b : List UInt8) : seqB (bsl a) (bsl b) = decide (a = b) := by
  by_cases h : a = b
  · subst h; simp [seqB_self]
  · rw [decide_eq_false h]
    cases hs : seqB (bsl a) (bsl b) with
    | false => rfl
    | true => exact absurd (bsl_inj (seqB_eq hs)) h
theorem seqB_nil (a : List UInt8) : seqB (bsl a) ⟨#[]⟩ = decide (a = []) := seqB_bsl a []
/-! ### rows of the document's list -/
def macC (p : Mac) : List Value := [.int .i64 p.1, .string (bsl p.2)]
def mcells (l : List Mac) : List Value := flC macC l
theorem macC_len (p : Mac) : (macC p).length = 2 := rfl
theorem mcells_app (l m : List Mac) : mcells l ++ mcells m = mcells (l ++ m) := flC_app l m
theorem mcells_get {l : List Mac} {i j : Nat} {v : Value} (h : i < l.length) (hj : (macC (l.getD i mac0))[j]? = some v) : (mcells l)[i * 2 + j]? = some v := by
  unfold mcells
  exact flC_get (f := macC) (d := mac0) macC_len h hj
theorem mcells_part {l : List Mac} {i j m : Nat} {cs : List Value} (h : i < l.length) (hj : ((macC (l.getD i mac0)).drop j).take m = cs) (hl : cs.length = m) : ((mcells l).drop (i * 2 + j)).take m = cs := by
  unfold mcells
  exact flC_part (f := macC) (d := mac0) macC_len h hj hl
theorem mcells_one (l : List Mac) : ∀ v ∈ mcells l, v.oneCell' = true := flC_one (fun x v hv => by
  simp [macC] at hv
  rcases hv with rfl | rfl <;> rfl) l
/-! ### look-ups -/
section
variable {n : Nat} {ops : Array Oper} {Q : Post} {l : List Oper} {e : Nat → Value} {w0 w w' : World} {o : Oper} {U : List Nat} {L As : List HA}
theorem SL.mpLookM {t : TypeId} {m x : Operand} {i b c : Nat} {M : List Mac} {z : Int} (hs : SH U w0 w L) (hg : o.guard = none) (hd : dok n o.dst = true)
    (ho : o.op = .lookup t m x true) (hm : evE e m = .map (some b)) (hx : evE e x = .int .i64 z) (ht : Try.prog.underlying t = some (.map 3 9)) (hL : L[i]? = some (mpH Try.prog 3 9 b c (macD M))) (hz : (Lit.int .i64 z).wf = true)
    (h : SL Try.prog n ops Q l (dput e o.dst (.tuple #[.string (bsl ((getL M z).getD [])), .bool (getL M z).isSome])) w) : SL Try.prog n ops Q (o :: l) e w := by
  refine SL.mpLookOk (kl := .int .i64 z) (z := .string ⟨#[]⟩) (zd := .lit (.string [])) (zp := []) keyI hs hg hd ho hm hx ht hL (keyOf_int z hz) (by kernel_rfl) (str_elem (s := ⟨#[]⟩) (by decide)) fun v ps hv => ?_
  obtain ⟨s, rfl, hy, _⟩ := str_inv Try.underlying9 hv
  have hy : (macD M).atKey (.int .i64 z) (.lit (.string [])) = .lit (.string s.data.toList) := hy
  rw [macD_at] at hy
  have e0 : s.data.toList = (getL M z).getD [] := by
    cases hq : getL M z with
    | none =>
      rw [hq] at hy
      simp only [DataW.lit.injEq, Lit.string.injEq] at hy
      simpa using hy.symm
    | some t =>
      rw [hq] at hy
      simp only [DataW.lit.injEq, Lit.string.injEq] at hy
      simpa using hy.symm
  have e1 : s = bsl ((getL M z).getD []) := (bsl_of s).trans (congrArg bsl e0)
  rw [macD_has, e1]
  exact h
end
/-! ### == of macros -/
theorem run_neq_opM {P : Program} {e : Nat → Value} {w : World} {o : Oper} {t t' : TypeId} {x y : Operand} {xs ys : Array Value} {b : Bool} (ho : o.op = .binOp .neq t x y t') (hx : evE e x = .agg xs) (hy : evE e y = .agg ys) (hg : P.eqGuardType P.depth t = false)
    (hr : (Op.equal t (.agg xs) (.agg ys)).run P w = .ok b w) : (execOp (evE e) o).run P w = .ok (.value (.bool (!b))) w := by
  have hr' : (Op.equalIn 10000 t (.agg xs) (.agg ys)).run P w = .ok b w := hr
  unfold execOp
  have hgd : (eqGuard .neq t x y (.agg xs) (.agg ys)).run P w = .ok () w := run_eqGuard_agg (P := P) (w := w) BinOp.neq t x y xs ys hg
  simp only [ho, hx, hy, Sem.run_bind, hgd, Result.andThen_ok, run_neq_struct, hr', Sem.run_pure]
theorem mac_eq (E F : Mac) (w : World) (hE : (Lit.int .i64 E.1).wf = true) (hF : (Lit.int .i64 F.1).wf = true) (lE : E.2.length ≤ maxLen) (lF : F.2.length ≤ maxLen) :
    (Op.equal 77 (.agg #[.int .i64 E.1, .string (bsl E.2)]) (.agg #[.int .i64 F.1, .string (bsl F.2)])).run Try.prog w = .ok (decide (E = F)) w := by
  refine run_eql_flat (m := 6) (lx := [.int .i64 E.1, .string (bsl E.2).data.toList]) (ly := [.int .i64 F.1, .string (bsl F.2).data.toList]) (by kernel_rfl) (by kernel_rfl) (by kernel_rfl) (by kernel_rfl) (by kernel_rfl) (by kernel_rfl) ?_ ?_ ?_
  · intro z hz
    simp at hz
    rcases hz with rfl | rfl
    · exact hE
    · show (bsl E.2).data.toList.length ≤ maxLen
      rw [bsl_list]; exact lE
  · intro z hz
    simp at hz
    rcases hz with rfl | rfl
    · exact hF
    · show (bsl F.2).data.toList.length ≤ maxLen
      rw [bsl_list]; exact lF
  · rw [bsl_list, bsl_list]
    obtain ⟨a, s⟩ := E
    obtain ⟨b, t⟩ := F
    simp
/-! ### the document's loops -/
theorem getD_take {l : List Mac} {k : Nat} (h : k < l.length) : l.take (k + 1) = l.take k ++ [l.getD k mac0] := by
  rw [List.take_add_one, List.getD_eq_getElem?_getD, List.getElem?_eq_getElem h]
  rfl
theorem usedL_take {l : List Mac} {k : Nat} (h : k < l.length) : usedL (l.take (k + 1)) = usedL (l.take k) + (l.getD k mac0).2.length := by
  rw [getD_take h, usedL_app]; simp [usedL]
theorem usedL_le (l : List Mac) (k : Nat) : usedL (l.take k) ≤ usedL l := by
  conv => rhs; rw [← List.take_append_drop k l]
  rw [usedL_app]; omega
theorem getL_none {l : List Mac} {i : Int} (h : ∀ j, j < l.length → (l.getD j mac0).1 ≠ i) : getL l i = none := by
  unfold getL
  rw [List.find?_eq_none.2 fun p hp => ?_]
  · rfl
  · obtain ⟨j, hj, rfl⟩ := List.mem_iff_getElem.1 hp
    have := h j hj
    rw [List.getD_eq_getElem?_getD, List.getElem?_eq_getElem hj, Option.getD_some] at this
    simpa using this
theorem getL_at {l : List Mac} {i : Int} : ∀ {k : Nat}, k < l.length → (∀ j, j < k → (l.getD j mac0).1 ≠ i) → (l.getD k mac0).1 = i → getL l i = some (l.getD k mac0).2 := by
  induction l with
  | nil => intro k h; simp at h
  | cons p l ih =>
    intro k h h1 h2
    cases k with
    | zero =>
      have : p.1 = i := h2
      simp [getL, this]
    | succ k =>
      have hp : ¬ p.1 = i := h1 0 (by omega)
      have := ih (k := k) (by simpa using h) (fun j hj => by have := h1 (j + 1) (by omega); simpa using this) (by simpa using h2)
      unfold getL at this ⊢
      rw [List.find?_cons_of_neg (by simpa using hp), this]
      rfl
theorem sumL_take {l : List Mac} {k : Nat} (h : k < l.length) : sumL (l.take (k + 1)) = sumL (l.take k) + sumB (l.getD k mac0).2 := by
  rw [getD_take h]; simp [sumL]
theorem sumB_take {t : List UInt8} {j : Nat} (h : j < t.length) : sumB (t.take (j + 1)) = sumB (t.take j) + (t.getD j 0).toNat := by
  rw [List.take_add_one, List.getD_eq_getElem?_getD, List.getElem?_eq_getElem h]
  unfold sumB
  rw [List.map_append, List.sum_append]
  rfl
theorem sumB_all {t : List UInt8} {j : Nat} (h : t.length ≤ j) : sumB (t.take j) = sumB t := by rw [List.take_of_length_le h]
theorem take_all {l : List Mac} {k : Nat} (h : l.length ≤ k) : l.take k = l := List.take_of_length_le h
end Go.Proofs.Ytaeppimldbknhaa
