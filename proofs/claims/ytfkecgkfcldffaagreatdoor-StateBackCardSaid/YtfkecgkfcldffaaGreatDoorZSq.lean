/-
  The calculus: == of structs and arrays.
-/
import Derived.DeepKeys
import Derived.Test.YtfkecgkfcldffaaGreatDoorZSr
namespace Go.Proofs.YtfkecgkfcldffaaGreatDoor
set_option linter.unusedSimpArgs false
set_option linter.unusedVariables false
open Go.RowKit
set_option linter.unusedVariables false

/-- The leaves of a value of a flat type. -/
def leafL (P : Program) : Nat → TypeId → List Value → Option (List Lit)
  | 0, _, _ => none
  | d + 1, t, cs =>
    match P.underlying t, cs with
    | some .bool, [.bool b] => some [.bool b]
    | some (.int q), [.int q' n] => if q' = q then some [.int q n] else none
    | some .string, [.string s] => some [.string s.data.toList]
    | some (.array n e), cs => if cs.length = P.cellsOf t then ((List.range n).mapM fun i => leafL P d e ((cs.drop (i * P.cellsOf e)).take (P.cellsOf e))).map List.flatten else none
    | some (.struct fs), cs => if cs.length = P.cellsOf t ∧ fs.all (·.name != "_") = true then (fs.toList.mapM fun f => leafL P d f.type ((cs.drop f.offset).take (P.cellsOf f.type))).map List.flatten else none
    | _, _ => none
def litOk : Lit → Prop
  | .int q n => (Lit.int q n).wf = true
  | .string s => s.length ≤ maxLen
  | _ => True
theorem mapM_ok {α : Type} {f g : α → Option (List Lit)} : ∀ (l : List α) (zs : List (List Lit)), (∀ x ∈ l, ∀ a, f x = some a → (∀ y ∈ a, litOk y) → g x = some a) → l.mapM f = some zs → (∀ y ∈ zs.flatten, litOk y) → l.mapM g = some zs
  | [], zs, _, h, _ => by simpa using h
  | x :: l, zs, hfg, h, hw => by
    rw [List.mapM_cons] at h ⊢
    simp only [bind, Option.bind_eq_some_iff, pure, Option.some.injEq] at h ⊢
    obtain ⟨a, h1, bs, h2, rfl⟩ := h
    have hw1 : ∀ y ∈ a, litOk y := fun y hy => hw y (by simp [hy])
    have hw2 : ∀ y ∈ bs.flatten, litOk y := fun y hy => hw y (by rw [List.flatten_cons]; exact List.mem_append_right _ hy)
    exact ⟨a, hfg x (by simp) a h1 hw1, bs, mapM_ok l bs (fun z hz => hfg z (by simp [hz])) h2 hw2, rfl⟩
theorem keyLits_leaf {P : Program} : ∀ (d : Nat) (t : TypeId) (cs : List Value) (L : List Lit), leafL P d t cs = some L → (∀ y ∈ L, litOk y) → P.keyLits d t cs = some L
  | 0, _, _, _, h, _ => by simp [leafL] at h
  | d + 1, t, cs, L, h, hw => by
    unfold leafL at h
    unfold Program.keyLits
    split at h
    · injection h with h; subst h; rename_i h1; rw [h1]
    · rename_i q q' n h1
      split at h
      · rename_i hq
        injection h with h
        subst h; subst hq
        rw [h1]
        simp only
        rw [if_pos ⟨trivial, (hw (Lit.int _ n) (by simp) : (Lit.int _ n).wf = true)⟩]
      · cases h
    · rename_i s h1
      injection h with h
      subst h
      rw [h1]
      simp only
      have := hw (.string s.data.toList) (by simp)
      simp only [litOk, Array.length_toList] at this
      rw [if_pos (show s.size ≤ maxLen from this)]
    · rename_i n e h1
      rw [h1]
      simp only
      split at h
      · rename_i hl
        rw [if_pos hl]
        rw [Option.map_eq_some_iff] at h ⊢
        obtain ⟨zs, ha, rfl⟩ := h
        exact ⟨zs, mapM_ok _ zs (fun i _ a hi hwa => keyLits_leaf d e _ a hi hwa) ha hw, rfl⟩
      · cases h
    · rename_i fs h1
      rw [h1]
      simp only
      split at h
      · rename_i hl
        rw [if_pos hl]
        rw [Option.map_eq_some_iff] at h ⊢
        obtain ⟨zs, ha, rfl⟩ := h
        exact ⟨zs, mapM_ok _ zs (fun f _ a hi hwa => keyLits_leaf d f.type _ a hi hwa) ha hw, rfl⟩
      · cases h
    · cases h
/-- == of two values of a flat type: their leaves are alike. -/
theorem run_eql_flat {P : Program} {w : World} {m : Nat} {t : TypeId} {x y : Value} {lx ly : List Lit} {b : Bool} (hm : Nat.ble m 10000 = true) (hk : P.keyTypeAt m t = true) (fx : x.formed P t = true) (fy : y.formed P t = true)
    (hx : leafL P m t x.cells.toList = some lx) (hy : leafL P m t y.cells.toList = some ly) (wx : ∀ z ∈ lx, litOk z) (wy : ∀ z ∈ ly, litOk z) (hb : b = true ↔ lx = ly) : (Op.equal t x y).run P w = .ok b w := by
  have hm' : m ≤ 10000 := by simpa using hm
  obtain ⟨r, hr, hiff⟩ := run_equalIn_deep (P := P) (10000 - m) m t hk w m m x y lx ly fx fy (keyLits_leaf m t _ lx hx wx) (keyLits_leaf m t _ ly hy wy)
  unfold Op.equal
  rw [show Op.maxDepth = 10000 - m + m by unfold Op.maxDepth; omega, hr]
  congr 1
  rw [Bool.eq_iff_iff, hiff, hb]
theorem run_eql_op {P : Program} {e : Nat → Value} {w : World} {o : Oper} {t t' : TypeId} {x y : Operand} {xs ys : Array Value} {b : Bool} (ho : o.op = .binOp .eql t x y t') (hx : evE e x = .agg xs) (hy : evE e y = .agg ys) (hg : P.eqGuardType P.depth t = false)
    (hr : (Op.equal t (.agg xs) (.agg ys)).run P w = .ok b w) : (execOp (evE e) o).run P w = .ok (.value (.bool b)) w := by
  have hr' : (Op.equalIn 10000 t (.agg xs) (.agg ys)).run P w = .ok b w := hr
  unfold execOp
  have hgd : (eqGuard .eql t x y (.agg xs) (.agg ys)).run P w = .ok () w := run_eqGuard_agg (P := P) (w := w) BinOp.eql t x y xs ys hg
  simp only [ho, hx, hy, Sem.run_bind, hgd, Result.andThen_ok, run_eql_struct, hr', Sem.run_pure]
theorem wf_i64 {n : Int} (h0 : -9223372036854775808 ≤ n) (h1 : n ≤ 9223372036854775807) : (Lit.int .i64 n).wf = true := by
  simp [Lit.wf, IntKind.min, IntKind.max, IntKind.bits, IntKind.signed]
  omega
theorem wf_u8 {n : Int} (h0 : 0 ≤ n) (h1 : n < 256) : (Lit.int .u8 n).wf = true := by
  simp [Lit.wf, IntKind.min, IntKind.max, IntKind.bits, IntKind.signed]
  omega
end Go.Proofs.YtfkecgkfcldffaaGreatDoor
