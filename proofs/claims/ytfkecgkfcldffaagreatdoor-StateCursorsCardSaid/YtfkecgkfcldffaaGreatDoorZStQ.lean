/-
 A state that is brought back by the program, walked (gen_sto.py).
 A state that is brought back by the document, walked (gen_sto.py).
 The law StateReports (gen_stq.py).
-/
import Derived.Test.YtfkecgkfcldffaaGreatDoorZStN
import Derived.Test.YtfkecgkfcldffaaGreatDoorZStG
import Derived.Test.YtfkecgkfcldffaaGreatDoorZStM
namespace Go.Proofs.YtfkecgkfcldffaaGreatDoor
set_option linter.unusedSimpArgs false
set_option linter.unusedVariables false
open Go.RowKit
set_option linter.unusedVariables false

def In16 (x : Int) : Prop := 0 ≤ x ∧ x ≤ 65535
end Go.Proofs.YtfkecgkfcldffaaGreatDoor

namespace Go.Proofs.YtfkecgkfcldffaaGreatDoor
set_option linter.unusedSimpArgs false
set_option linter.unusedVariables false
open Go.RowKit
set_option linter.unusedVariables false

theorem rparse_no (l : List Int) (w : World) (hl : ∀ c ∈ l, 0 ≤ c ∧ c < 256) (hn : l.length ≤ 300) (ha : l.all isAcc = false) :
  Tr Tryz.prog 78 #[.string (strOf l)] w [] (fun v Q => v = .tuple #[.slice none 0 0, iv 3] ∧ Q = []) := fun fp hfp => by
 have h0 : fp = [] := hfp
 subst h0
 refine (nums_bad hl (by omega) ha w).mono fun e w' hR => ?_
 obtain ⟨rfl, rfl⟩ := hR
 exact ⟨_, _, [], rfl, ⟨rfl, rfl⟩, rfl, Upd.refl _ _, by simp⟩
theorem rparse_len (l : List Int) (w : World) (hl : ∀ c ∈ l, 0 ≤ c ∧ c < 256) (hn : l.length ≤ 300) (ha : l.all isAcc = true) :
  Tr Tryz.prog 78 #[.string (strOf l)] w [] (fun v Q => ∃ a c, v = .tuple #[.slice a (numsR l).length c, iv 0] ∧ Q = [rowH 3 1 a (numsR l).length c (icells (numsR l))]) := fun fp hfp => by
 have h0 : fp = [] := hfp
 subst h0
 refine (nums_call hl (by omega) ha w).mono fun e w' hR => ?_
 obtain ⟨v, rfl, hown, hg⟩ := hR
 obtain ⟨a, c, rfl, hst, hB⟩ := own_new hown
 exact ⟨_, _, _, rfl, ⟨a, c, rfl, rfl⟩, hst, hg.updU, fun g hm => .inr (hB g hm)⟩
end Go.Proofs.YtfkecgkfcldffaaGreatDoor

namespace Go.Proofs.YtfkecgkfcldffaaGreatDoor
set_option linter.unusedSimpArgs false
set_option linter.unusedVariables false
open Go.ChangeShapes Go.WideShapes Go.RowKit
set_option linter.unusedVariables false

theorem uL_idem (x : Int) : uL (uL x) = uL x := by
 unfold uL selI between
 by_cases h : 0 ≤ x ∧ x ≤ 3
 ·simp [h]
 ·have h2 : (decide (0 ≤ x) && decide (x ≤ 3)) = false := by simp; omega
  rw [h2]; rfl
theorem uR_idem (x : Int) : uR (uR x) = uR x := by
 unfold uR selI between
 by_cases h : 0 ≤ x ∧ x ≤ 3
 ·simp [h]
 ·have h2 : (decide (0 ≤ x) && decide (x ≤ 3)) = false := by simp; omega
  rw [h2]; rfl
def errK (b : Bool) : Int := bif b then 0 else 3
theorem acc_in : ∀ (l : List Int) (s : PS), (∀ x ∈ s.done, In16 x) → In16 s.now → l.all isAcc = true → (∀ x ∈ (l.foldl accByte s).done, In16 x) ∧ In16 (l.foldl accByte s).now
 | [], s, h1, h2, _ => ⟨h1, h2⟩
 | c :: l, s, h1, h2, h3 => by
  rw [List.all_cons, Bool.and_eq_true] at h3
  rw [List.foldl_cons]
  have hc := h3.1
  refine acc_in l _ ?_ ?_ h3.2
  ·unfold accByte
   split
   ·simp only
    split
    ·intro x hx
     rcases List.mem_append.1 hx with hx | hx
     ·exact h1 x hx
     ·simp at hx; subst hx; exact h2
    ·exact h1
   ·exact h1
  ·unfold accByte
   split
   ·exact ⟨by simp, by simp⟩
   ·rename_i hne
    unfold isAcc at hc
    simp [hne] at hc
    unfold In16 at h2 ⊢
    simp only
    omega
theorem nums_in16 {l : List Int} (h : l.all isAcc = true) : ∀ x ∈ numsR l, In16 x := by
 have h1 := acc_in l PS.init (by simp [PS.init]) ⟨by decide, by decide⟩ h
 rw [← acc_nums l PS.init rfl rfl rfl]
 unfold accList
 split
 ·intro x hx
  rcases List.mem_append.1 hx with hx | hx
  ·exact h1.1 x hx
  ·simp at hx; subst hx; exact h1.2
 ·exact h1.1
abbrev litsC (c : Cor) : List Lit := [.int .i64 c.row, .int .i64 c.col, .int .u8 c.rend, .bool c.kept, .bool c.wrap, .bool c.origin, .int .i64 c.g0, .int .i64 c.g1, .int .i64 c.g2, .int .i64 c.g3, .int .i64 c.gl, .int .i64 c.gr, .int .i64 c.sg, .int .i64 c.pt, .int .i64 c.pl, .int .i64 c.pb, .int .i64 c.pr, .int .i64 c.mt, .int .i64 c.ml, .int .i64 c.mb, .int .i64 c.mr, .int .i64 c.modes, .int .i64 c.level, .bool c.eight, .bool c.stream, .int .i64 c.status, .bool c.below, .int .i64 c.page, .int .i64 c.pages]
theorem err_0 (b : Bool) : (errK b == 0) = b := by cases b <;> rfl
theorem err_3 (b : Bool) : (!(errK b == 3)) = b := by cases b <;> rfl
theorem take_b {l : List Int} (h : ∀ c ∈ l, 0 ≤ c ∧ c < 256) (n : Nat) : ∀ c ∈ l.take n, 0 ≤ c ∧ c < 256 := fun c hc => h c (List.mem_of_mem_take hc)
/-- A text, cut. -/
def cutL (l : List Int) : List Int := bif decide (300 < ((l.length : Nat) : Int)) then l.take 300 else l
theorem cut_b {l : List Int} (h : ∀ c ∈ l, 0 ≤ c ∧ c < 256) : ∀ c ∈ cutL l, 0 ≤ c ∧ c < 256 := by
 unfold cutL
 cases decide (300 < ((l.length : Nat) : Int)) with
 | true => exact take_b h 300
 | false => exact h
theorem cut_l (l : List Int) : (cutL l).length ≤ 300 := by
 unfold cutL
 cases hd : decide (300 < ((l.length : Nat) : Int)) with
 | true => rw [cond_true]; simp; omega
 | false => have := of_decide_eq_false hd; rw [cond_false]; omega
theorem run_neq_op {P : Program} {e : Nat → Value} {w : World} {o : Oper} {t t' : TypeId} {x y : Operand} {xs ys : Array Value} {b : Bool} (ho : o.op = .binOp .neq t x y t') (hx : evE e x = .agg xs) (hy : evE e y = .agg ys) (hg : P.eqGuardType P.depth t = false)
  (hr : (Op.equal t (.agg xs) (.agg ys)).run P w = .ok b w) : (execOp (evE e) o).run P w = .ok (.value (.bool (!b))) w := by
 have hr' : (Op.equalIn 10000 t (.agg xs) (.agg ys)).run P w = .ok b w := hr
 unfold execOp
 have hgd : (eqGuard .neq t x y (.agg xs) (.agg ys)).run P w = .ok () w := run_eqGuard_agg (P := P) (w := w) BinOp.neq t x y xs ys hg
 simp only [ho, hx, hy, Sem.run_bind, hgd, Result.andThen_ok, run_neq_struct, hr', Sem.run_pure]
end Go.Proofs.YtfkecgkfcldffaaGreatDoor
