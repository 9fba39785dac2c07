/-
  The calculus: texts, places in rows, parts of rows.
-/
import Derived.Test.YtfkecgkfcldffaaDoorZCm
import Derived.Test.YtfkecgkfcldffaaDoorZHb
namespace Go.Proofs.YtfkecgkfcldffaaDoor
set_option linter.unusedSimpArgs false
set_option linter.unusedVariables false
open Go.RowKit
set_option linter.unusedVariables false

/-- Texts alike? -/
def seqB (a b : ByteArray) : Bool := a.data.toList == b.data.toList
theorem seqB_self (a : ByteArray) : seqB a a = true := by simp [seqB]
theorem seqB_eq {a b : ByteArray} (h : seqB a b = true) : a = b := by
  unfold seqB at h
  have h : a.data.toList = b.data.toList := by simpa using h
  cases a; cases b
  simp only [ByteArray.mk.injEq]
  exact Array.toList_inj.1 h
theorem seqB_ne {a b : ByteArray} (h : seqB a b = false) : a ≠ b := fun e => by subst e; rw [seqB_self] at h; cases h
theorem tol (a : ByteArray) : a.toList = a.data.toList := ByteArray.toList_eq a
section
variable {P : Program} {e : Nat → Value} {w : World} {o : Oper}
theorem run_streq {t t' : TypeId} {x y : Operand} {a b : ByteArray} (ho : o.op = .binOp .eql t x y t') (hx : evE e x = .string a) (hy : evE e y = .string b) : (execOp (evE e) o).run P w = .ok (.value (.bool (seqB a b))) w := by
  unfold execOp seqB
  simp [ho, hx, hy, eqGuard, binOp_string_eql, tol, Sem.run_bind, Result.andThen_ok, Sem.run_pure]
theorem run_strne {t t' : TypeId} {x y : Operand} {a b : ByteArray} (ho : o.op = .binOp .neq t x y t') (hx : evE e x = .string a) (hy : evE e y = .string b) : (execOp (evE e) o).run P w = .ok (.value (.bool (!seqB a b))) w := by
  unfold execOp seqB
  simp [ho, hx, hy, eqGuard, binOp_string_neq, tol, Sem.run_bind, Result.andThen_ok, Sem.run_pure]
theorem strOf_sz (l : List Int) : (strOf l).size = l.length := by simp [strOf, ByteArray.size]
end
/-! ### What is read from a row -/
section
variable {P : Program} {e : Nat → Value} {w : World} {o : Oper}
theorem run_streqB {t t' : TypeId} {x y : Operand} {a b : ByteArray} {c : Bool} (ho : o.op = .binOp .eql t x y t') (hx : evE e x = .string a) (hy : evE e y = .string b) (h : seqB a b = c) : (execOp (evE e) o).run P w = .ok (.value (.bool c)) w := by
  rw [← h]; exact run_streq ho hx hy
theorem run_strneB {t t' : TypeId} {x y : Operand} {a b : ByteArray} {c : Bool} (ho : o.op = .binOp .neq t x y t') (hx : evE e x = .string a) (hy : evE e y = .string b) (h : seqB a b = c) : (execOp (evE e) o).run P w = .ok (.value (.bool (!c))) w := by
  rw [← h]; exact run_strne ho hx hy
end
section
variable {P : Program} {e : Nat → Value} {w : World} {o : Oper}
theorem guard_bool {op : BinOp} {t : TypeId} {x y : Operand} {a b : Bool} : (eqGuard op t x y (.bool a) (.bool b)).run P w = .ok () w := by
  cases op <;> rfl
theorem run_boolne {t t' : TypeId} {x y : Operand} {a b c : Bool} (ho : o.op = .binOp .neq t x y t') (hx : evE e x = .bool a) (hy : evE e y = .bool b) (ht : P.underlying t = some .bool) (h : (!(a == b)) = c) : (execOp (evE e) o).run P w = .ok (.value (.bool c)) w := by
  unfold execOp
  simp only [ho, hx, hy, Sem.run_bind, guard_bool, run_neq_bool w t a b ht, Result.andThen_ok, Sem.run_pure, h]
end
theorem conv_atH {w : World} {g n : Nat} {l : List Int} {C : Array Value} {fr : Nat × Nat} (h : w.heap[g]? = some (.cells C 5 fr)) (hC : C = (bcells l).toArray := by rfl) (hn : l.length = n := by rfl) : (convert 102 9 (.slice (some ⟨g, 0, none⟩) n n)).run Tryd.prog w = .ok (.string (strOf l)) w :=
  conv_row ⟨by simpa [bcells] using hn, .inr ⟨g, n, C, rfl, ⟨fr, h⟩, Nat.le_refl _, by subst hC; simp [bcells, hn], by subst hC; subst hn; exact List.take_of_length_le (by simp [bcells])⟩⟩
theorem run_conv {P : Program} {e : Nat → Value} {w : World} {o : Oper} {s d : TypeId} {x : Operand} {v v' : Value} (ho : o.op = .convert s d x) (hx : evE e x = v) (hr : (convert s d v).run P w = .ok v' w) : (execOp (evE e) o).run P w = .ok (.value v') w := by
  subst hx
  unfold execOp
  simp only [ho, Sem.run_bind, hr, Result.andThen_ok, Sem.run_pure]
theorem icells_len (l : List Int) : (icells l).length = l.length * 1 := by simp [icells]
theorem icells_app (a b : List Int) : icells a ++ icells b = icells (a ++ b) := by simp [icells]
/-- A new row of numbers. -/
def IRw (l : List Int) (v : Value) (Q : List HA) : Prop := ∃ g cap pad, v = .slice (some ⟨g, 0, none⟩) l.length cap ∧ Q = [pt g ⟨icells l ++ pad⟩ 3] ∧ (icells l ++ pad).length = cap * 1 ∧ l.length ≤ cap ∧ cap ≤ maxLen
end Go.Proofs.YtfkecgkfcldffaaDoor
