/-
  What the keyboard sends: Encode, walked (gen_kye.py).
-/
import Derived.Test.YtnnhaenmoifplaaDoorZOrd6
import Derived.Test.YtnnhaenmoifplaaDoorZKzD
namespace Go.Proofs.YtnnhaenmoifplaaDoor
set_option linter.unusedSimpArgs false
set_option linter.unusedVariables false
open Go.RowKit
set_option linter.unusedVariables false

/-- What a key of a kind sends. -/
def kindK (k c : Int) (sh ct b3 b4 b12 b13 : Bool) (lv : Int) (ei : Bool) (L : Txs) : List Int :=
  if k = 0 then charK c lv ct else if k = 1 then enterK b3 else if k = 2 then tabK sh lv ei else if k = 3 then backK b13 else if k = 4 then [27] else if k ≤ 8 then arrowK k b4 ei else if k ≤ 14 then editK k lv ei else if k = 15 then padK c b12 b3 ei else fK c sh lv ei L
/-- What a key sends, by five modes alone. -/
def encK (k c : Int) (sh ct b0 b3 b4 b12 b13 : Bool) (lv : Int) (ei : Bool) (L : Txs) : List Int := if k < 0 ∨ 16 < k ∨ b0 = true then [] else kindK k c sh ct b3 b4 b12 b13 lv ei L
/-- The function of a kind. -/
structure KindFn (w : World) (k : Int) (f : FuncId) (bd : Array Value) (L : List Int) : Prop where
  at_ : ∀ W, (Instr.index 56 (.agg tabA) (.int .i64 k)).run Tryd.prog W = .ok (.func (.func f) #[] #[]) W
  call : ∀ args W, (callFunc f args).run Tryd.prog W = .ok (.enter f args) W
  con : ∀ W, Gr w W → Calls Tryd.prog f #[.agg bd] W (EncTo W L)
set_option maxRecDepth 100000 in
theorem kind_any {w : World} (k : Int) (c : Int) (sh ct : Bool) (m : BitVec 32) (lv : Int) (ei : Bool) (p : Nat) {L : Txs} {lk : Bool} (hk : 0 ≤ k ∧ k ≤ 16) (hT : tabT w) (hK : KAt w p L lk) (hc : 0 ≤ c ∧ c < 256) :
    ∃ f, KindFn w k f (cBoard k c sh ct m lv ei p) (kindK k c sh ct (hasB m 3) (hasB m 4) (hasB m 12) (hasB m 13) lv ei L) := by
  have hcs : k = 0 ∨ k = 1 ∨ k = 2 ∨ k = 3 ∨ k = 4 ∨ k = 5 ∨ k = 6 ∨ k = 7 ∨ k = 8 ∨ k = 9 ∨ k = 10 ∨ k = 11 ∨ k = 12 ∨ k = 13 ∨ k = 14 ∨ k = 15 ∨ k = 16 := by omega
  rcases hcs with rfl | rfl | rfl | rfl | rfl | rfl | rfl | rfl | rfl | rfl | rfl | rfl | rfl | rfl | rfl | rfl | rfl
  · exact ⟨13, fun _ => by kernel_rfl, fun _ _ => rfl, fun W hg => char_any 0 c sh ct m lv ei p hc⟩
  · exact ⟨14, fun _ => by kernel_rfl, fun _ _ => rfl, fun W hg => enter_any 1 c sh ct m lv ei p⟩
  · exact ⟨15, fun _ => by kernel_rfl, fun _ _ => rfl, fun W hg => tab_any 2 c sh ct m lv ei p (hT.gr hg)⟩
  · exact ⟨16, fun _ => by kernel_rfl, fun _ _ => rfl, fun W hg => back_any 3 c sh ct m lv ei p⟩
  · exact ⟨17, fun _ => by kernel_rfl, fun _ _ => rfl, fun W hg => escape_any 4 c sh ct m lv ei p⟩
  · exact ⟨20, fun _ => by kernel_rfl, fun _ _ => rfl, fun W hg => arrow_any 5 c sh ct m lv ei p (hT.gr hg) (by omega)⟩
  · exact ⟨20, fun _ => by kernel_rfl, fun _ _ => rfl, fun W hg => arrow_any 6 c sh ct m lv ei p (hT.gr hg) (by omega)⟩
  · exact ⟨20, fun _ => by kernel_rfl, fun _ _ => rfl, fun W hg => arrow_any 7 c sh ct m lv ei p (hT.gr hg) (by omega)⟩
  · exact ⟨20, fun _ => by kernel_rfl, fun _ _ => rfl, fun W hg => arrow_any 8 c sh ct m lv ei p (hT.gr hg) (by omega)⟩
  · exact ⟨21, fun _ => by kernel_rfl, fun _ _ => rfl, fun W hg => edit_any 9 c sh ct m lv ei p (hT.gr hg) (by omega)⟩
  · exact ⟨21, fun _ => by kernel_rfl, fun _ _ => rfl, fun W hg => edit_any 10 c sh ct m lv ei p (hT.gr hg) (by omega)⟩
  · exact ⟨21, fun _ => by kernel_rfl, fun _ _ => rfl, fun W hg => edit_any 11 c sh ct m lv ei p (hT.gr hg) (by omega)⟩
  · exact ⟨21, fun _ => by kernel_rfl, fun _ _ => rfl, fun W hg => edit_any 12 c sh ct m lv ei p (hT.gr hg) (by omega)⟩
  · exact ⟨21, fun _ => by kernel_rfl, fun _ _ => rfl, fun W hg => edit_any 13 c sh ct m lv ei p (hT.gr hg) (by omega)⟩
  · exact ⟨21, fun _ => by kernel_rfl, fun _ _ => rfl, fun W hg => edit_any 14 c sh ct m lv ei p (hT.gr hg) (by omega)⟩
  · exact ⟨18, fun _ => by kernel_rfl, fun _ _ => rfl, fun W hg => pad_any 15 c sh ct m lv ei p (hT.gr hg) hc⟩
  · exact ⟨19, fun _ => by kernel_rfl, fun _ _ => rfl, fun W hg => f_any 16 c sh ct m lv ei p (hT.gr hg) (hK.gr hg) hc⟩
def enF (g5 p : Nat) (k c : Int) (sh ct : Bool) (m : BitVec 32) (lv : Int) (ei : Bool) (f : FuncId) (L : List Int) : Nat → Value → World → Prop
  | 0, v, _ => v = .agg tabA
  | 1, v, _ => v = .pointer (some ⟨g5, 0, none⟩)
  | 2, v, _ => v = .int .i64 k
  | 3, v, _ => v = .func (.func f) #[] #[]
  | 4, v, _ => v = .agg #[.int .i64 k, .int .u8 c, .bool sh, .bool ct, .int .u32 (m.toNat : Int), .int .i64 lv, .bool ei, .pointer (some ⟨p, 0, none⟩)]
  | 5, v, w' => ∃ va vc, v = .slice va L.length vc ∧ HasRow w' 5 (.slice va L.length vc) L.length (bcells L) ∧ ∀ k, (Value.slice va L.length vc).ownBlock = some k → g5 ≤ k
  | 6, v, w' => ∃ va vc, v = .slice va L.length vc ∧ HasRow w' 5 (.slice va L.length vc) L.length (bcells L) ∧ ∀ k, (Value.slice va L.length vc).ownBlock = some k → g5 ≤ k
  | _, _, _ => True
theorem enF.gr {g5 p : Nat} {k c : Int} {sh ct : Bool} {m : BitVec 32} {lv : Int} {ei : Bool} {f : FuncId} {L : List Int} {w1 w2 : World} {j : Nat} {u : Value} (h : enF g5 p k c sh ct m lv ei f L j u w1) (hg : Gr w1 w2) : enF g5 p k c sh ct m lv ei f L j u w2 := by
  unfold enF at h ⊢
  split <;> first | exact h | skip
  · obtain ⟨va, vc, e, h1, h2⟩ := h; exact ⟨va, vc, e, h1.gr hg, h2⟩
  · obtain ⟨va, vc, e, h1, h2⟩ := h; exact ⟨va, vc, e, h1.gr hg, h2⟩
  all_goals trivial
theorem encK_off {k c : Int} {sh ct b0 b3 b4 b12 b13 : Bool} {lv : Int} {ei : Bool} {L : Txs} (h : k < 0 ∨ 16 < k ∨ b0 = true) : encK k c sh ct b0 b3 b4 b12 b13 lv ei L = [] := if_pos h
set_option maxRecDepth 100000 in
set_option maxHeartbeats 4000000 in
theorem encode_any {w : World} (k c : Int) (sh ct : Bool) (m : BitVec 32) (lv : Int) (ei : Bool) (p : Nat) {L : Txs} {lk : Bool} (hT : tabT w) (hK : KAt w p L lk) (hc : 0 ≤ c ∧ c < 256) :
    Calls Tryd.prog 4 #[.agg #[.int .i64 k, .int .u8 c, .bool sh, .bool ct], .int .u32 (m.toNat : Int), .int .i64 lv, .bool ei, .pointer (some ⟨p, 0, none⟩)] w (EncTo w (encK k c sh ct (hasB m 0) (hasB m 3) (hasB m 4) (hasB m 12) (hasB m 13) lv ei L)) := by
  have h0 := (hasFor m).h0
  have hg5 := ((Gr.refl w).alloc (.cells #[.int .i64 k, .int .u8 c, .bool sh, .bool ct] 42)).alloc (.cells #[.int .i64 k, .int .u8 c, .bool sh, .bool ct, .int .u32 (m.toNat : Int), .int .i64 lv, .bool ei, .pointer (some ⟨p, 0, none⟩)] 53)
  by_cases hk0 : k < 0
  · rw [encK_off (.inl hk0)]
    go_enter Tryd.func4, Tryd.ntmps4
    go_wp2_with fail
    go_ret
    exact ⟨none, 0, rfl, ⟨HasRow.nil _ _, fresh_nil⟩, hg5⟩
  have hk0' : 0 ≤ k := by omega
  clear hk0
  by_cases hk1 : 16 < k
  · rw [encK_off (.inr (.inl hk1))]
    go_enter Tryd.func4, Tryd.ntmps4
    go_wp2_with fail
    go_ret
    exact ⟨none, 0, rfl, ⟨HasRow.nil _ _, fresh_nil⟩, hg5⟩
  have hk1' : k ≤ 16 := by omega
  clear hk1
  cases hb : hasB m 0
  · rw [hb] at h0
    have e : encK k c sh ct false (hasB m 3) (hasB m 4) (hasB m 12) (hasB m 13) lv ei L = kindK k c sh ct (hasB m 3) (hasB m 4) (hasB m 12) (hasB m 13) lv ei L := if_neg (by simp; omega)
    rw [e]
    clear e
    obtain ⟨f, hf⟩ := kind_any (w := w) k c sh ct m lv ei p ⟨hk0', hk1'⟩ hT hK hc
    obtain ⟨R, hR⟩ : ∃ R, R = kindK k c sh ct (hasB m 3) (hasB m 4) (hasB m 12) (hasB m 13) lv ei L := ⟨_, rfl⟩
    rw [← hR] at hf ⊢
    clear hR
    obtain ⟨hat, hcl, hcon⟩ := hf
    unfold cBoard at hcon
    have hev := ((Gr.refl _).alloc (.cells #[.int .i64 k, .int .u8 c, .bool sh, .bool ct, .int .u32 (m.toNat : Int), .int .i64 lv, .bool ei, .pointer (some ⟨p, 0, none⟩)] 53)).blk (heap_alloc_new w (.cells #[.int .i64 k, .int .u8 c, .bool sh, .bool ct] 42))
    have hboard := heap_new2 w (.cells #[.int .i64 k, .int .u8 c, .bool sh, .bool ct] 42) (.cells #[.int .i64 k, .int .u8 c, .bool sh, .bool ct, .int .u32 (m.toNat : Int), .int .i64 lv, .bool ei, .pointer (some ⟨p, 0, none⟩)] 53)
    go_enter Tryd.func4, Tryd.ntmps4
    go_upto_region 4 with (go_at_call 9; (with_reducible refine (h0 _).mono ?_); rintro e w1 ⟨rfl, rfl⟩)
    obtain ⟨w2, hw2⟩ : ∃ w2, w2 = (w.alloc (.cells #[.int .i64 k, .int .u8 c, .bool sh, .bool ct] 42)).alloc (.cells #[.int .i64 k, .int .u8 c, .bool sh, .bool ct, .int .u32 (m.toNat : Int), .int .i64 lv, .bool ei, .pointer (some ⟨p, 0, none⟩)] 53) := ⟨_, rfl⟩
    obtain ⟨g5, hg5d⟩ : ∃ g, g = w.heap.size := ⟨_, rfl⟩
    rw [← hw2] at hboard hev hg5 ⊢
    rw [← hg5d] at hboard hev ⊢
    have HC := Lib.hid (fun (w9 : World) (hg : Gr w2 w9) => (⟨hg.cellAt (cell_of_row hev 0 _ rfl), hg.cellAt (cell_of_row hboard 0 _ rfl), hg.cellAt (cell_of_row hboard 1 _ rfl), hg.cellAt (cell_of_row hboard 2 _ rfl), hg.cellAt (cell_of_row hboard 3 _ rfl), hg.cellAt (cell_of_row hboard 4 _ rfl), hg.cellAt (cell_of_row hboard 5 _ rfl), hg.cellAt (cell_of_row hboard 6 _ rfl), hg.cellAt (cell_of_row hboard 7 _ rfl)⟩ : w9.cell? ⟨g5, 0, none⟩ = some (.int .i64 k) ∧ w9.cell? ⟨g5 + 1, 0, none⟩ = some (.int .i64 k) ∧ w9.cell? ⟨g5 + 1, 1, none⟩ = some (.int .u8 c) ∧ w9.cell? ⟨g5 + 1, 2, none⟩ = some (.bool sh) ∧ w9.cell? ⟨g5 + 1, 3, none⟩ = some (.bool ct) ∧ w9.cell? ⟨g5 + 1, 4, none⟩ = some (.int .u32 (m.toNat : Int)) ∧ w9.cell? ⟨g5 + 1, 5, none⟩ = some (.int .i64 lv) ∧ w9.cell? ⟨g5 + 1, 6, none⟩ = some (.bool ei) ∧ w9.cell? ⟨g5 + 1, 7, none⟩ = some (.pointer (some ⟨p, 0, none⟩))))
    have HAT := Lib.hid hat
    have HCL := Lib.hid hcl
    have HCON := Lib.hid (fun (w9 : World) (hg : Gr w2 w9) => hcon w9 (hg5.trans hg))
    have HW := Lib.hid hw2
    have HGE := Lib.hid hg5d
    clear hat hcl hcon hw2 hg5d hboard hev h0 hT hK
    refine wp_region_facts6 (enF g5 p k c sh ct m lv ei f R) (Gr w2) (by kernel_rfl) (by kernel_rfl) (by kernel_rfl) (Gr.refl w2).drew ?_ ?_
    · intro hap
      refine Steps.cons1 1 rfl rfl ?_ (Steps.cons1 2 rfl rfl ?_ (Steps.cons1 3 rfl rfl ?_ (Steps.cons1 4 rfl rfl ?_ (Steps.cons1 5 rfl rfl ?_ (Steps.cons1 6 rfl rfl ?_ (Steps.cons1 7 rfl rfl ?_ (Steps.nil)))))))
      · (intro ys w' hB hP; simp only [Preds, Region.binds, enF, forall_const, and_true, true_and] at hP)
        intro K hK
        simp only [fillA]
        go_simp
        (with_reducible refine (table_any _).mono ?_)
        rintro e w10 ⟨rfl, hg10⟩
        have h2 := hK _ w10 (hB.trans hg10) rfl (fun j u _ h => h.gr hg10)
        simp [fillA, Act.put, hP] at h2
        exact h2
      · (intro ys w' hB hP K hK; simp only [Preds, Region.binds, enF, forall_const, and_true, true_and] at hP; simp only [fillA]; go_simp; (have h2 := fun v => hK v w' hB); simp only [enF, forall_eq] at h2; (have h2 := h2 (fun _ _ _ h => h)); simp [fillA, Act.put, hP] at h2; exact h2)
      · (intro ys w' hB hP; simp only [Preds, Region.binds, enF, forall_const, and_true, true_and] at hP)
        obtain ⟨q0, _⟩ := HC.out w' hB
        intro K hK
        simp only [fillA]
        go_simp
        have h2 := hK _ w' hB rfl (fun j u _ h => h)
        simp [fillA, Act.put, hP] at h2
        exact h2
      · (intro ys w' hB hP; simp only [Preds, Region.binds, enF, forall_const, and_true, true_and] at hP)
        have hat2 := HAT.out w'
        intro K hK
        simp only [fillA]
        go_simp
        have h2 := hK _ w' hB rfl (fun j u _ h => h)
        simp [fillA, Act.put, hP] at h2
        exact h2
      · (intro ys w' hB hP; simp only [Preds, Region.binds, enF, forall_const, and_true, true_and] at hP)
        obtain ⟨_, q0, q1, q2, q3, q4, q5, q6, q7⟩ := HC.out w' hB
        intro K hK
        simp only [fillA]
        go_simp
        have h2 := hK _ w' hB rfl (fun j u _ h => h)
        simp [fillA, Act.put, hP] at h2
        exact h2
      · (intro ys w' hB hP; simp only [Preds, Region.binds, enF, forall_const, and_true, true_and] at hP)
        have hcl2 := HCL.out
        intro K hK
        simp only [fillA]
        go_simp
        (with_reducible refine (HCON.out _ hB).mono ?_)
        rintro e w10 ⟨va, vc, rfl, hrow, hg10⟩
        have h2 := hK _ w10 (hB.trans hg10) ⟨va, vc, rfl, hrow.1, fun k hk => Nat.le_trans (by have h1 := hB.size; have h2 := hg5.size; have h3 := HGE.out; omega) (hrow.2 k hk)⟩ (fun j u _ h => h.gr hg10)
        simp [fillA, Act.put, hP] at h2
        exact h2
      · (intro ys w' hB hP; simp only [Preds, Region.binds, enF, forall_const, and_true, true_and] at hP)
        obtain ⟨va, vc, hy, hrow, hfr⟩ : ∃ va vc, ys 5 = .slice va R.length vc ∧ HasRow w' 5 (.slice va R.length vc) R.length (bcells R) ∧ ∀ k, (Value.slice va R.length vc).ownBlock = some k → g5 ≤ k := (by first | exact hP | exact hP.1 | exact hP.2 | exact hP.2.1 | exact hP.2.2)
        clear hP
        intro K hK
        simp only [fillA]
        go_simp
        have h2 := hK (.slice va R.length vc) w' hB ⟨va, vc, rfl, hrow, hfr⟩ (fun j u _ h => h)
        simp [fillA, Act.put, hy] at h2
        exact h2
    · intro ys3 w11 hB3 hF
      obtain ⟨va, vc, f6, hrow, hfr⟩ := hF 6 (by decide)
      clear hF
      simp only [fillA, f6, Act.put, Nat.zero_add, List.setIfInBounds_toArray, List.set_cons_zero, List.set_cons_succ]
      clear f6
      go_wp2_with fail
      go_ret
      exact ⟨va, vc, rfl, ⟨hrow, fun k hk => Nat.le_trans (by have h3 := HGE.out; omega) (hfr k hk)⟩, hg5.trans hB3⟩
  · rw [encK_off (.inr (.inr rfl))]
    rw [hb] at h0
    go_enter Tryd.func4, Tryd.ntmps4
    go_wp2_with (go_at_call 9; (with_reducible refine (h0 _).mono ?_); rintro e w1 ⟨rfl, rfl⟩)
    go_ret
    exact ⟨none, 0, rfl, ⟨HasRow.nil _ _, fresh_nil⟩, hg5⟩
end Go.Proofs.YtnnhaenmoifplaaDoor
