/-
  Restoring sets out of what was reported of them, in the document's text.
-/
import Derived.Test.YtfkecgkfcldffaaGreatDoorZIsQ
import Derived.Test.YtfkecgkfcldffaaGreatDoorZOrd5
namespace Go.Proofs.YtfkecgkfcldffaaGreatDoor
set_option linter.unusedSimpArgs false
set_option linter.unusedVariables false
open Go.RowKit
set_option linter.unusedVariables false

def wideK (sz : Int) (k : Nat) : Bool := decide ((sz - 64) / 2 ^ k % 2 = 1)
def bsl (l : List UInt8) : ByteArray := ⟨l.toArray⟩
/-- What is restored after k sets, and how far the ids are read. -/
def rstS (sz : Int) (X : S7) (l : List UInt8) : Nat → Option (S7 × Nat)
  | 0 => some (X, 0)
  | k + 1 => (rstS sz X l k).bind fun p =>
    if l.length < p.2 + idN (l.drop p.2) then none
    else if desOk (wideK sz k) (bsl ((l.drop p.2).take (idN (l.drop p.2)))) k = true then some (doS 1 k (wideK sz k) (bsl ((l.drop p.2).take (idN (l.drop p.2)))) 0 p.1, p.2 + idN (l.drop p.2)) else none
def rstR (sz gl gr : Int) (X : S7) (l : List UInt8) : S7 × Bool :=
  if between 0 3 gl = true ∧ between 1 3 gr = true ∧ between 64 79 sz = true then
    match rstS sz X l 4 with
    | some (Z, a) => if a = l.length then ({ Z with a4 := gl, a5 := gr }, true) else (X, false)
    | none => (X, false)
  else (X, false)
theorem rstS_none {sz : Int} {X : S7} {l : List UInt8} {k : Nat} (h : rstS sz X l k = none) : ∀ j, k ≤ j → rstS sz X l j = none := by
  intro j hj
  induction j with
  | zero => have : k = 0 := by omega
            subst this; exact h
  | succ j ih =>
    by_cases e : k = j + 1
    · subst e; exact h
    · simp [rstS, ih (by omega)]
theorem rstS_le {sz : Int} {X : S7} {l : List UInt8} {k : Nat} : ∀ {Z : S7} {a : Nat}, rstS sz X l k = some (Z, a) → a ≤ l.length := by
  induction k with
  | zero => intro Z a h; simp [rstS] at h; omega
  | succ k ih =>
    intro Z a h
    rcases hp : rstS sz X l k with _ | ⟨Y, b⟩
    · simp [rstS, hp] at h
    · simp only [rstS, hp, Option.bind_some] at h
      split at h
      · cases h
      · split at h
        · simp only [Option.some.injEq, Prod.mk.injEq] at h; omega
        · cases h

theorem Gr.upd1 {w0 w w' : World} {p : Nat} (hg : Gr w0 w) (hu : Upd [p] w w') (hp : w0.heap.size ≤ p) : Gr w0 w' :=
  ⟨hu.os.trans hg.os, hu.tape.trans hg.tape, hu.output.trans hg.output, Nat.le_trans hg.size hu.size, fun k hk => (hu.block k (Nat.lt_of_lt_of_le hk hg.size) (by simp; omega)).trans (hg.block k hk)⟩
theorem Upd.transP {p : Nat} {w w' w'' : World} (h : Upd [p] w w') (h' : Upd [p] w' w'') : Upd [p] w w'' :=
  ⟨h'.os.trans h.os, h'.tape.trans h.tape, h'.output.trans h.output, Nat.le_trans h.size h'.size, fun k hk hn => (h'.block k (Nat.lt_of_lt_of_le hk h.size) hn).trans (h.block k hk hn)⟩
theorem Upd.gr1 {p : Nat} {w w' w'' : World} (h : Upd [p] w w') (hg : Gr w' w'') : Upd [p] w w'' :=
  ⟨hg.os.trans h.os, hg.tape.trans h.tape, hg.output.trans h.output, Nat.le_trans h.size hg.size, fun k hk hn => (hg.block k (Nat.lt_of_lt_of_le hk h.size)).trans (h.block k hk hn)⟩
theorem idN_at {l : List UInt8} {x : Nat} (h : x < (bsl l).size) : (idN (l.drop x) = 2 ∧ ((((bsl l)[x]'h).toNat : Int) == 37) = true) ∨ (idN (l.drop x) = 1 ∧ ((((bsl l)[x]'h).toNat : Int) == 37) = false) := by
  have hx : x < l.length := by simpa [bsl, ByteArray.size] using h
  have e : (bsl l)[x]'h = l[x] := by simp [bsl, ByteArray.getElem_eq_getElem_data]
  rw [e, List.drop_eq_getElem_cons hx]
  unfold idN Lib.hasPrefix
  by_cases hc : l[x] = 37
  · left; rw [hc]; simp
  · right
    have : ¬ l[x].toNat = 37 := fun e2 => hc (UInt8.toNat_inj.1 (by simpa using e2))
    simp [hc, this]
    refine ⟨?_, by omega⟩
    rw [List.drop_eq_getElem_cons hx, List.cons_prefix_cons]
    exact fun h => hc h.1.symm

set_option maxRecDepth 100000 in
set_option maxHeartbeats 4000000 in
theorem rrst_bad (X : S7) (gl gr sz : Int) (l : List UInt8) (w : World) (hsz : 0 ≤ sz ∧ sz < 256) (hb : ¬ (between 0 3 gl = true ∧ between 1 3 gr = true ∧ between 64 79 sz = true)) :
    Calls Tryz.prog 37 #[.agg X.cells, .int .i64 gl, .int .i64 gr, .int .u8 sz, .string (bsl l)] w fun e w' => e = .returned (.tuple #[.agg X.cells, .bool false]) ∧ Gr w w' := by
  unfold S7.cells
  have h : gl < 0 ∨ (0 ≤ gl ∧ 3 < gl) ∨ (0 ≤ gl ∧ gl ≤ 3 ∧ gr < 1) ∨ (0 ≤ gl ∧ gl ≤ 3 ∧ 1 ≤ gr ∧ 3 < gr) ∨ (0 ≤ gl ∧ gl ≤ 3 ∧ 1 ≤ gr ∧ gr ≤ 3 ∧ sz < 64) ∨ (0 ≤ gl ∧ gl ≤ 3 ∧ 1 ≤ gr ∧ gr ≤ 3 ∧ 64 ≤ sz ∧ 79 < sz) := by simp [between] at hb; omega
  clear hb
  rcases h with h | ⟨h1, h⟩ | ⟨h1, h2, h⟩ | ⟨h1, h2, h3, h⟩ | ⟨h1, h2, h3, h4, h⟩ | ⟨h1, h2, h3, h4, h5, h⟩
  all_goals
    go_enter Tryz.func37, Tryz.ntmps37
    go_wp2_with fail
    exact bodyPost_ret (v := .tuple #[.agg #[.int .i64 X.a0, .int .i64 X.a1, .int .i64 X.a2, .int .i64 X.a3, .int .i64 X.a4, .int .i64 X.a5, .int .i64 X.a6], .bool false]) (by simp [results, Tryz.results37, go_sem]) rfl ⟨rfl, by (repeat (first | with_reducible (refine Gr.setCell ?_ ?hp _; case hp => (simp; try omega)) | with_reducible refine Gr.alloc ?_ _ | with_reducible refine Gr.drew ?_ | with_reducible refine Gr.drewN ?_ _ | with_reducible assumption | with_reducible exact Gr.refl _ | with_reducible refine Gr.trans ?_ (by assumption)))⟩

def rsF (w0 : World) (T : TypeId) (Z : S7) (k x n y m : Int) (wd : Bool) (id s : ByteArray) (V : S7) (ok : Bool) : Nat → (Nat → Value) → World → Prop
  | 0, ys, _ => ys 0 = .agg #[.int .i64 Z.a0, .int .i64 Z.a1, .int .i64 Z.a2, .int .i64 Z.a3, .int .i64 Z.a4, .int .i64 Z.a5, .int .i64 Z.a6]
  | 1, ys, _ => ys 1 = .int .i64 k
  | 2, ys, _ => ys 2 = .int .i64 m
  | 3, ys, _ => ys 3 = .int .i64 (m % 2)
  | 4, ys, _ => ys 4 = .bool wd
  | 5, ys, _ => ys 5 = .string s
  | 6, ys, _ => ys 6 = .int .i64 x
  | 7, ys, _ => ys 7 = .int .i64 x
  | 8, ys, _ => ys 8 = .int .i64 n
  | 9, ys, _ => ys 9 = .int .i64 y
  | 10, ys, _ => ys 10 = .string id
  | 11, ys, _ => ys 11 = .tuple #[.agg #[.int .i64 V.a0, .int .i64 V.a1, .int .i64 V.a2, .int .i64 V.a3, .int .i64 V.a4, .int .i64 V.a5, .int .i64 V.a6], .bool ok]
  | 12, ys, _ => ys 12 = .tuple #[.agg #[.int .i64 V.a0, .int .i64 V.a1, .int .i64 V.a2, .int .i64 V.a3, .int .i64 V.a4, .int .i64 V.a5, .int .i64 V.a6], .bool ok]
  | 13, ys, _ => ys 13 = .agg #[.int .i64 V.a0, .int .i64 V.a1, .int .i64 V.a2, .int .i64 V.a3, .int .i64 V.a4, .int .i64 V.a5, .int .i64 V.a6]
  | 14, ys, _ => ys 14 = .bool ok
  | 15, ys, w => ∃ p cs, ys 15 = .pointer (some ⟨p, 0, none⟩) ∧ w0.heap.size ≤ p ∧ cs.size = 7 ∧ w.heap[p]? = some (.cells cs T (0, 0))
  | 16, ys, w => ∃ p, ys 15 = .pointer (some ⟨p, 0, none⟩) ∧ w0.heap.size ≤ p ∧ w.heap[p]? = some (.cells #[.int .i64 V.a0, .int .i64 V.a1, .int .i64 V.a2, .int .i64 V.a3, .int .i64 V.a4, .int .i64 V.a5, .int .i64 V.a6] T (0, 0))
  | 17, ys, _ => ys 17 = .bool ok
  | _, _, _ => True
theorem rsF.gr {w0 w w' : World} {T : TypeId} {Z V : S7} {k x n y m : Int} {wd ok : Bool} {id s : ByteArray} {j : Nat} {ys : Nat → Value} (h : rsF w0 T Z k x n y m wd id s V ok j ys w) (hg : Gr w w') : rsF w0 T Z k x n y m wd id s V ok j ys w' := by
  match j, h with
  | 0, h | 1, h | 2, h | 3, h | 4, h | 5, h | 6, h | 7, h | 8, h | 9, h | 10, h | 11, h | 12, h | 13, h | 14, h | 17, h => exact h
  | 15, h => obtain ⟨p, cs, h1, h2, h3, h4⟩ := h; exact ⟨p, cs, h1, h2, h3, hg.blk h4⟩
  | 16, h => obtain ⟨p, h1, h2, h3⟩ := h; exact ⟨p, h1, h2, hg.blk h3⟩
  | _ + 18, _ => exact trivial
/-- The store: only the fact of op 15 speaks of that block. -/
theorem rsF.set {w0 w w' : World} {T : TypeId} {Z V : S7} {k x n y m : Int} {wd ok : Bool} {id s : ByteArray} {j g : Nat} {ys : Nat → Value} {cells : Array Value} (h : rsF w0 T Z k x n y m wd id s V ok j ys w) (hcs : cells.size = 7)
    (hs : w'.heap[g]? = some (.cells cells T (0, 0))) (hb : ∀ k, k ≠ g → w'.heap[k]? = w.heap[k]?) (h16 : j ≠ 16) : rsF w0 T Z k x n y m wd id s V ok j ys w' := by
  match j, h with
  | 0, h | 1, h | 2, h | 3, h | 4, h | 5, h | 6, h | 7, h | 8, h | 9, h | 10, h | 11, h | 12, h | 13, h | 14, h | 17, h => exact h
  | 15, h =>
    obtain ⟨p, cs, h1, h2, h3, h4⟩ := h
    by_cases e : p = g
    · subst e; exact ⟨p, cells, h1, h2, hcs, hs⟩
    · exact ⟨p, cs, h1, h2, h3, (hb p e).trans h4⟩
  | 16, _ => exact absurd rfl h16
  | _ + 18, _ => exact trivial
theorem rsF.at16 {w0 w : World} {T : TypeId} {Z V : S7} {k x n y m : Int} {wd ok : Bool} {id s : ByteArray} {g : Nat} {ys : Nat → Value} (v : Value) (hq : ys 15 = .pointer (some ⟨g, 0, none⟩)) (hge : w0.heap.size ≤ g) (hs : w.heap[g]? = some (.cells #[.int .i64 V.a0, .int .i64 V.a1, .int .i64 V.a2, .int .i64 V.a3, .int .i64 V.a4, .int .i64 V.a5, .int .i64 V.a6] T (0, 0))) :
    rsF w0 T Z k x n y m wd id s V ok 16 (setY ys 16 v) w := ⟨g, hq, hge, hs⟩
theorem bsl_extract (l : List UInt8) (x y : Nat) : (bsl l).extract x y = bsl ((l.drop x).take (y - x)) := by
  unfold bsl
  apply ByteArray.ext
  simp [ByteArray.data_extract, List.extract_eq_take_drop]
theorem doS_des (k : Int) (wd : Bool) (id : ByteArray) (Z : S7) : doS 1 k wd id 0 Z = ⟨selI (desOk wd id k && decide (k = 0)) (findP wd id) Z.a0, selI (desOk wd id k && decide (k = 1)) (findP wd id) Z.a1, selI (desOk wd id k && decide (k = 2)) (findP wd id) Z.a2, selI (desOk wd id k && decide (k = 3)) (findP wd id) Z.a3, Z.a4, Z.a5, Z.a6⟩ := by unfold doS; rw [if_pos rfl]
def noD (_ _ : Nat) (_ _ : Value) : Prop := True

set_option maxRecDepth 100000 in
set_option maxHeartbeats 1000000 in
theorem rrst_good (X : S7) (gl gr sz : Int) (l : List UInt8) (w : World) (hsz : 0 ≤ sz ∧ sz < 256) (hl : l.length ≤ maxLen) (hb : between 0 3 gl = true ∧ between 1 3 gr = true ∧ between 64 79 sz = true) :
    Calls Tryz.prog 37 #[.agg X.cells, .int .i64 gl, .int .i64 gr, .int .u8 sz, .string (bsl l)] w fun e w' => e = .returned (.tuple #[.agg (rstR sz gl gr X l).1.cells, .bool (rstR sz gl gr X l).2]) ∧ Gr w w' := by
  have e0 : rstR sz gl gr X l = match rstS sz X l 4 with
    | some (Z, a) => if a = l.length then ({ Z with a4 := gl, a5 := gr }, true) else (X, false)
    | none => (X, false) := by unfold rstR; rw [if_pos hb]
  have HR := Lib.hid e0
  clear e0
  unfold S7.cells
  simp [between] at hb
  obtain ⟨⟨b1, b2⟩, ⟨b3, b4⟩, b5, b6⟩ := hb
  unfold maxLen at hl
  have hln : (bsl l).size = l.length := by simp [bsl, ByteArray.size]
  obtain ⟨r, hr⟩ : ∃ r, r = rstR sz gl gr X l := ⟨_, rfl⟩
  rw [← hr] at HR ⊢
  have HRR := Lib.hid hr
  clear hr
  have hwr : IntKind.wrap .i64 sz = sz := IntWalk.i64_in sz (by omega)
  have hwr2 : IntKind.wrap .i64 (sz - 64) = sz - 64 := IntWalk.i64_in (sz - 64) (by omega)
  go_enter Tryz.func37, Tryz.ntmps37
  go_wp2_with fail
  obtain ⟨W, hW⟩ : ∃ W, W = ((w.alloc (.cells #[.int .i64 X.a0, .int .i64 X.a1, .int .i64 X.a2, .int .i64 X.a3, .int .i64 X.a4, .int .i64 X.a5, .int .i64 X.a6] 25)).alloc (.cells #[.int .i64 0, .int .i64 0, .int .i64 0, .int .i64 0, .int .i64 0, .int .i64 0, .int .i64 0] 25)).alloc (.cells #[.int .i64 X.a0, .int .i64 X.a1, .int .i64 X.a2, .int .i64 X.a3, .int .i64 X.a4, .int .i64 X.a5, .int .i64 X.a6] 25) := ⟨_, rfl⟩
  rw [← hW]
  obtain ⟨s0, hs0⟩ : ∃ s, s = w.heap.size := ⟨_, rfl⟩
  have k5 : W.heap[s0]? = some (.cells #[.int .i64 X.a0, .int .i64 X.a1, .int .i64 X.a2, .int .i64 X.a3, .int .i64 X.a4, .int .i64 X.a5, .int .i64 X.a6] 25 (0, 0)) := by rw [hW, hs0]; exact (((Gr.refl _).alloc _).alloc _).blk (heap_alloc_new w _)
  have k10 : W.heap[s0 + 1]? = some (.cells #[.int .i64 0, .int .i64 0, .int .i64 0, .int .i64 0, .int .i64 0, .int .i64 0, .int .i64 0] 25 (0, 0)) := by rw [hW, hs0]; have := ((Gr.refl _).alloc (.cells #[.int .i64 X.a0, .int .i64 X.a1, .int .i64 X.a2, .int .i64 X.a3, .int .i64 X.a4, .int .i64 X.a5, .int .i64 X.a6] 25)).blk (heap_alloc_new (w.alloc (.cells #[.int .i64 X.a0, .int .i64 X.a1, .int .i64 X.a2, .int .i64 X.a3, .int .i64 X.a4, .int .i64 X.a5, .int .i64 X.a6] 25)) (.cells #[.int .i64 0, .int .i64 0, .int .i64 0, .int .i64 0, .int .i64 0, .int .i64 0, .int .i64 0] 25)); simpa using this
  have k12 : W.heap[s0 + 2]? = some (.cells #[.int .i64 X.a0, .int .i64 X.a1, .int .i64 X.a2, .int .i64 X.a3, .int .i64 X.a4, .int .i64 X.a5, .int .i64 X.a6] 25 (0, 0)) := by rw [hW, hs0]; have := heap_alloc_new ((w.alloc (.cells #[.int .i64 X.a0, .int .i64 X.a1, .int .i64 X.a2, .int .i64 X.a3, .int .i64 X.a4, .int .i64 X.a5, .int .i64 X.a6] 25)).alloc (.cells #[.int .i64 0, .int .i64 0, .int .i64 0, .int .i64 0, .int .i64 0, .int .i64 0, .int .i64 0] 25)) (.cells #[.int .i64 X.a0, .int .i64 X.a1, .int .i64 X.a2, .int .i64 X.a3, .int .i64 X.a4, .int .i64 X.a5, .int .i64 X.a6] 25); simpa using this
  have hgW : Gr w W := by rw [hW]; exact (((Gr.refl w).alloc _).alloc _).alloc _
  have hsw : w.heap.size ≤ s0 := by omega
  rw [← hs0]
  clear hW hs0
  obtain ⟨b10, hb10⟩ : ∃ b, b = s0 + 1 := ⟨_, rfl⟩
  obtain ⟨b12, hb12⟩ : ∃ b, b = s0 + 1 + 1 := ⟨_, rfl⟩
  have hb12' : s0 + 2 = b12 := by omega
  rw [hb12'] at k12
  rw [← hb10] at k10
  rw [← hb12, ← hb10]
  have hg10 : w.heap.size ≤ b10 := by omega
  have hg12 : w.heap.size ≤ b12 := by omega
  have n1 : b10 ≠ b12 := by omega
  have n2 : s0 ≠ b12 := by omega
  clear hb12' hb10 hb12
  go_loopw [13, 14, 15] (fun m a i w' => ∃ (k x : Nat) (Z : S7), k ≤ 4 ∧ i = .int .i64 k ∧ a = .int .i64 x ∧ m = .int .i64 ((sz - 64) / 2 ^ k) ∧ Hid (rstS sz X l k = some (Z, x)) ∧ w'.heap[b12]? = some (.cells #[.int .i64 Z.a0, .int .i64 Z.a1, .int .i64 Z.a2, .int .i64 Z.a3, .int .i64 Z.a4, .int .i64 Z.a5, .int .i64 Z.a6] 25 (0, 0)) ∧ Upd [b12] W w') (fun _ _ i _ => 4 - (intOf i).toNat)
  case atStart => exact ⟨0, 0, X, by omega, rfl, rfl, by simp, Lib.hid rfl, k12, ⟨rfl, rfl, rfl, Nat.le_refl _, fun _ _ _ => rfl⟩⟩
  case round =>
    obtain ⟨k, x, Z, hk, rfl, rfl, rfl, HK, hz, hu⟩ := hrel
    have hx := rstS_le HK.out
    have z5 : wr.heap[s0]? = _ := (hu.block s0 (blk_lt0 k5) (by simp; omega)).trans k5
    have z10 : wr.heap[b10]? = _ := (hu.block b10 (blk_lt0 k10) (by simp; omega)).trans k10
    have hgr : Gr w wr := hgW.upd1 hu (by omega)
    by_cases hk4 : k < 4
    · have hkn : (k : Int) < 4 := by omega
      by_cases hxl : x < l.length
      · have hxn : (x : Int) < (l.length : Int) := by omega
        have h0 : x < (bsl l).size := by omega
        rcases idN_at h0 with ⟨hn, hc⟩ | ⟨hn, hc⟩
        · by_cases hx2 : x + 2 ≤ l.length
          · have hxm : ¬ ((l.length : Int) - (x : Int) < 2) := by omega
            obtain ⟨m, hme⟩ : ∃ m, m = (sz - 64) / 2 ^ k := ⟨_, rfl⟩
            have hm0 : 0 ≤ m := by rw [hme]; exact Int.ediv_nonneg (by omega) (Int.pow_nonneg (by decide))
            have hml : m ≤ 15 := by rw [hme]; exact Int.le_trans (Int.ediv_le_self _ (by omega)) (by omega)
            obtain ⟨wd, hwd⟩ : ∃ wd, wd = decide (m % 2 = 1) := ⟨_, rfl⟩
            have hwk : wideK sz k = wd := by rw [hwd, hme]; rfl
            have hw1 : (m % 2 == 1) = wd := by rw [hwd]; rfl
            have hw2 : decide (m % 2 = 1) = wd := hwd.symm
            have hwm : IntKind.wrap .i64 (m % 2) = m % 2 := IntWalk.i64_in _ (by omega)
            rw [← hme]
            have HME := Lib.hid hme; have HWK := Lib.hid hwk
            clear hme hwk hwd
            have hm1 : m.tmod 2 = m % 2 := Int.tmod_eq_emod_of_nonneg hm0
            obtain ⟨y, hy⟩ : ∃ y, y = x + 2 := ⟨_, rfl⟩
            have hwx : IntKind.wrap .i64 ((x : Int) + 2) = (y : Int) := by rw [IntWalk.i64_in _ (by omega)]; omega
            have hyx : (x : Int) ≤ (y : Int) := by omega
            have hyl : (y : Int) ≤ (l.length : Int) := by omega
            have hx0 : (0 : Int) ≤ (x : Int) := by omega
            have hid := bsl_extract l x y
            rw [show y - x = 2 by omega] at hid
            have HY := Lib.hid hy
            clear hy
            obtain ⟨id, hid0⟩ : ∃ id, id = bsl ((l.drop x).take 2) := ⟨_, rfl⟩
            rw [← hid0] at hid
            obtain ⟨V, hV⟩ : ∃ V, V = doS 1 k wd id 0 Z := ⟨_, rfl⟩
            obtain ⟨ok, hok⟩ : ∃ ok, ok = desOk wd id k := ⟨_, rfl⟩
            have hdes : ∀ w, Calls Tryz.prog 79 #[.agg #[.int .i64 Z.a0, .int .i64 Z.a1, .int .i64 Z.a2, .int .i64 Z.a3, .int .i64 Z.a4, .int .i64 Z.a5, .int .i64 Z.a6], .int .i64 k, .bool wd, .string id] w fun e w' => e = .returned (.tuple #[.agg #[.int .i64 V.a0, .int .i64 V.a1, .int .i64 V.a2, .int .i64 V.a3, .int .i64 V.a4, .int .i64 V.a5, .int .i64 V.a6], .bool ok]) ∧ Gr w w' := by
              intro w
              have := rdes_any Z.a0 Z.a1 Z.a2 Z.a3 Z.a4 Z.a5 Z.a6 k wd id w
              rw [hV, hok, doS_des]
              exact this
            have HV0 := Lib.hid hV; have HOK := Lib.hid hok; have HID := Lib.hid hid0
            clear hV hok hid0
            go_wp2_with fail
            refine wp_region_facts5 (rsF wr 25 Z k x 2 y m wd id (bsl l) V ok) noD (Gr wr) (by kernel_rfl) (by kernel_rfl) (by kernel_rfl) ?_ ((Gr.refl _).drew) ?_ ?_
            · intro j o ho ys zs w' hj he hF
              match j, ho, hj, hF with
              | 0, ho, hj, hF | 1, ho, hj, hF | 2, ho, hj, hF | 3, ho, hj, hF | 4, ho, hj, hF | 5, ho, hj, hF | 6, ho, hj, hF | 7, ho, hj, hF | 8, ho, hj, hF | 9, ho, hj, hF | 10, ho, hj, hF | 11, ho, hj, hF | 12, ho, hj, hF | 13, ho, hj, hF | 14, ho, hj, hF | 15, ho, hj, hF | 17, ho, hj, hF => simp only [rsF] at hF ⊢; rw [← hj]; exact hF
              | 16, ho, hj, hF => 
                simp at ho; subst ho
                have := he ⟨15, .data⟩ (by simp) rfl
                simp only [rsF] at hF ⊢; rw [← this]; exact hF
              | _ + 18, ho, _, _ => exact trivial
            · refine Steps2.cons1 1 rfl rfl ?_ (Steps2.cons1 2 rfl rfl ?_ (Steps2.cons1 3 rfl rfl ?_ (Steps2.cons1 4 rfl rfl ?_ (Steps2.cons1 5 rfl rfl ?_ (Steps2.cons1 6 rfl rfl ?_ (Steps2.cons1 7 rfl rfl ?_ (Steps2.cons1 8 rfl rfl ?_ (Steps2.cons1 9 rfl rfl ?_ (Steps2.cons1 10 rfl rfl ?_ (Steps2.cons1 11 rfl rfl ?_ (Steps2.cons1 12 rfl rfl ?_ (Steps2.cons1 13 rfl rfl ?_ (Steps2.cons1 14 rfl rfl ?_ (Steps2.cons1 15 rfl rfl ?_ (Steps2.cons1 16 rfl rfl ?_ (Steps2.cons1 17 rfl rfl ?_ (Steps2.cons1 18 rfl rfl ?_ (Steps2.nil))))))))))))))))))
              · (intro L ys w' hB hD hP hn; simp only [LAll, Region.binds, forall_const, and_true, true_and] at hP)
                have q := cells7 (hB.blk hz)
                intro K hK
                simp only [fillA]
                go_simp
                have h2 := hK (.agg #[.int .i64 Z.a0, .int .i64 Z.a1, .int .i64 Z.a2, .int .i64 Z.a3, .int .i64 Z.a4, .int .i64 Z.a5, .int .i64 Z.a6]) w' hB (setY_at ys 0 _) (fun j _ h => h) (fun j _ => ⟨fun _ => trivial, fun _ => trivial⟩)
                simp [fillA, Act.put] at h2
                exact h2
              · (intro L ys w' hB hD hP hn; simp only [LAll, Region.binds, forall_const, and_true, true_and] at hP)
                intro K hK
                simp only [fillA]
                go_simp
                have h2 := hK (.int .i64 (k : Int)) w' hB (setY_at ys 1 _) (fun j _ h => h) (fun j _ => ⟨fun _ => trivial, fun _ => trivial⟩)
                simp [fillA, Act.put] at h2
                exact h2
              · (intro L ys w' hB hD hP hn; simp only [LAll, Region.binds, forall_const, and_true, true_and] at hP)
                intro K hK
                simp only [fillA]
                go_simp
                have h2 := hK (.int .i64 m) w' hB (setY_at ys 2 _) (fun j _ h => h) (fun j _ => ⟨fun _ => trivial, fun _ => trivial⟩)
                simp [fillA, Act.put] at h2
                exact h2
              · (intro L ys w' hB hD hP hn; simp only [LAll, Region.binds, forall_const, and_true, true_and] at hP)
                have f2 : ys 2 = _ := hD.fact 2 (by first | exact hP | exact hP.1 | exact hP.2.1 | exact hP.2.2.1 | exact hP.2.2.2.1 | exact hP.2 | exact hP.2.2 | exact hP.2.2.2)
                intro K hK
                simp only [fillA]
                go_simp
                have h2 := hK (.int .i64 (m % 2)) w' hB (setY_at ys 3 _) (fun j _ h => h) (fun j _ => ⟨fun _ => trivial, fun _ => trivial⟩)
                simp [fillA, Act.put, f2] at h2
                exact h2
              · (intro L ys w' hB hD hP hn; simp only [LAll, Region.binds, forall_const, and_true, true_and] at hP)
                have f3 : ys 3 = _ := hD.fact 3 (by first | exact hP | exact hP.1 | exact hP.2.1 | exact hP.2.2.1 | exact hP.2.2.2.1 | exact hP.2 | exact hP.2.2 | exact hP.2.2.2)
                intro K hK
                simp only [fillA]
                go_simp
                have h2 := hK (.bool wd) w' hB (setY_at ys 4 _) (fun j _ h => h) (fun j _ => ⟨fun _ => trivial, fun _ => trivial⟩)
                simp [fillA, Act.put, f3] at h2
                exact h2
              · (intro L ys w' hB hD hP hn; simp only [LAll, Region.binds, forall_const, and_true, true_and] at hP)
                intro K hK
                simp only [fillA]
                go_simp
                have h2 := hK (.string (bsl l)) w' hB (setY_at ys 5 _) (fun j _ h => h) (fun j _ => ⟨fun _ => trivial, fun _ => trivial⟩)
                simp [fillA, Act.put] at h2
                exact h2
              · (intro L ys w' hB hD hP hn; simp only [LAll, Region.binds, forall_const, and_true, true_and] at hP)
                intro K hK
                simp only [fillA]
                go_simp
                have h2 := hK (.int .i64 (x : Int)) w' hB (setY_at ys 6 _) (fun j _ h => h) (fun j _ => ⟨fun _ => trivial, fun _ => trivial⟩)
                simp [fillA, Act.put] at h2
                exact h2
              · (intro L ys w' hB hD hP hn; simp only [LAll, Region.binds, forall_const, and_true, true_and] at hP)
                intro K hK
                simp only [fillA]
                go_simp
                have h2 := hK (.int .i64 (x : Int)) w' hB (setY_at ys 7 _) (fun j _ h => h) (fun j _ => ⟨fun _ => trivial, fun _ => trivial⟩)
                simp [fillA, Act.put] at h2
                exact h2
              · (intro L ys w' hB hD hP hn; simp only [LAll, Region.binds, forall_const, and_true, true_and] at hP)
                intro K hK
                simp only [fillA]
                go_simp
                have h2 := hK (.int .i64 2) w' hB (setY_at ys 8 _) (fun j _ h => h) (fun j _ => ⟨fun _ => trivial, fun _ => trivial⟩)
                simp [fillA, Act.put] at h2
                exact h2
              · (intro L ys w' hB hD hP hn; simp only [LAll, Region.binds, forall_const, and_true, true_and] at hP)
                have f7 : ys 7 = _ := hD.fact 7 (by first | exact hP | exact hP.1 | exact hP.2.1 | exact hP.2.2.1 | exact hP.2.2.2.1 | exact hP.2 | exact hP.2.2 | exact hP.2.2.2)
                have f8 : ys 8 = _ := hD.fact 8 (by first | exact hP | exact hP.1 | exact hP.2.1 | exact hP.2.2.1 | exact hP.2.2.2.1 | exact hP.2 | exact hP.2.2 | exact hP.2.2.2)
                intro K hK
                simp only [fillA]
                go_simp
                have h2 := hK (.int .i64 (y : Int)) w' hB (setY_at ys 9 _) (fun j _ h => h) (fun j _ => ⟨fun _ => trivial, fun _ => trivial⟩)
                simp [fillA, Act.put, f7, f8] at h2
                exact h2
              · (intro L ys w' hB hD hP hn; simp only [LAll, Region.binds, forall_const, and_true, true_and] at hP)
                have f5 : ys 5 = _ := hD.fact 5 (by first | exact hP | exact hP.1 | exact hP.2.1 | exact hP.2.2.1 | exact hP.2.2.2.1 | exact hP.2 | exact hP.2.2 | exact hP.2.2.2)
                have f6 : ys 6 = _ := hD.fact 6 (by first | exact hP | exact hP.1 | exact hP.2.1 | exact hP.2.2.1 | exact hP.2.2.2.1 | exact hP.2 | exact hP.2.2 | exact hP.2.2.2)
                have f9 : ys 9 = _ := hD.fact 9 (by first | exact hP | exact hP.1 | exact hP.2.1 | exact hP.2.2.1 | exact hP.2.2.2.1 | exact hP.2 | exact hP.2.2 | exact hP.2.2.2)
                intro K hK
                simp only [fillA]
                go_simp
                have h2 := hK (.string id) w' hB (setY_at ys 10 _) (fun j _ h => h) (fun j _ => ⟨fun _ => trivial, fun _ => trivial⟩)
                simp [fillA, Act.put, f5, f6, f9] at h2
                exact h2
              · (intro L ys w' hB hD hP hn; simp only [LAll, Region.binds, forall_const, and_true, true_and] at hP)
                have f0 : ys 0 = _ := hD.fact 0 (by first | exact hP | exact hP.1 | exact hP.2.1 | exact hP.2.2.1 | exact hP.2.2.2.1 | exact hP.2 | exact hP.2.2 | exact hP.2.2.2)
                have f1 : ys 1 = _ := hD.fact 1 (by first | exact hP | exact hP.1 | exact hP.2.1 | exact hP.2.2.1 | exact hP.2.2.2.1 | exact hP.2 | exact hP.2.2 | exact hP.2.2.2)
                have f4 : ys 4 = _ := hD.fact 4 (by first | exact hP | exact hP.1 | exact hP.2.1 | exact hP.2.2.1 | exact hP.2.2.2.1 | exact hP.2 | exact hP.2.2 | exact hP.2.2.2)
                have f10 : ys 10 = _ := hD.fact 10 (by first | exact hP | exact hP.1 | exact hP.2.1 | exact hP.2.2.1 | exact hP.2.2.2.1 | exact hP.2 | exact hP.2.2 | exact hP.2.2.2)
                intro K hK
                simp only [fillA]
                go_simp
                refine (hdes _).mono ?_
                rintro e w4 ⟨rfl, hg⟩
                have h2 := hK (.tuple #[.agg #[.int .i64 V.a0, .int .i64 V.a1, .int .i64 V.a2, .int .i64 V.a3, .int .i64 V.a4, .int .i64 V.a5, .int .i64 V.a6], .bool ok]) w4 (hB.trans hg) (setY_at ys 11 _) (fun j _ h => h.gr hg) (fun j _ => ⟨fun _ => trivial, fun _ => trivial⟩)
                simp [fillA, Act.put, f0, f1, f4, f10] at h2
                exact h2
              · (intro L ys w' hB hD hP hn; simp only [LAll, Region.binds, forall_const, and_true, true_and] at hP)
                have f11 : ys 11 = _ := hD.fact 11 (by first | exact hP | exact hP.1 | exact hP.2.1 | exact hP.2.2.1 | exact hP.2.2.2.1 | exact hP.2 | exact hP.2.2 | exact hP.2.2.2)
                intro K hK
                simp only [fillA]
                go_simp
                have h2 := hK (.tuple #[.agg #[.int .i64 V.a0, .int .i64 V.a1, .int .i64 V.a2, .int .i64 V.a3, .int .i64 V.a4, .int .i64 V.a5, .int .i64 V.a6], .bool ok]) w' hB (setY_at ys 12 _) (fun j _ h => h) (fun j _ => ⟨fun _ => trivial, fun _ => trivial⟩)
                simp [fillA, Act.put, f11] at h2
                exact h2
              · (intro L ys w' hB hD hP hn; simp only [LAll, Region.binds, forall_const, and_true, true_and] at hP)
                have f12 : ys 12 = _ := hD.fact 12 (by first | exact hP | exact hP.1 | exact hP.2.1 | exact hP.2.2.1 | exact hP.2.2.2.1 | exact hP.2 | exact hP.2.2 | exact hP.2.2.2)
                intro K hK
                simp only [fillA]
                go_simp
                have h2 := hK (.agg #[.int .i64 V.a0, .int .i64 V.a1, .int .i64 V.a2, .int .i64 V.a3, .int .i64 V.a4, .int .i64 V.a5, .int .i64 V.a6]) w' hB (setY_at ys 13 _) (fun j _ h => h) (fun j _ => ⟨fun _ => trivial, fun _ => trivial⟩)
                simp [fillA, Act.put, f12] at h2
                exact h2
              · (intro L ys w' hB hD hP hn; simp only [LAll, Region.binds, forall_const, and_true, true_and] at hP)
                have f12 : ys 12 = _ := hD.fact 12 (by first | exact hP | exact hP.1 | exact hP.2.1 | exact hP.2.2.1 | exact hP.2.2.2.1 | exact hP.2 | exact hP.2.2 | exact hP.2.2.2)
                intro K hK
                simp only [fillA]
                go_simp
                have h2 := hK (.bool ok) w' hB (setY_at ys 14 _) (fun j _ h => h) (fun j _ => ⟨fun _ => trivial, fun _ => trivial⟩)
                simp [fillA, Act.put, f12] at h2
                exact h2
              · (intro L ys w' hB hD hP hn; simp only [LAll, Region.binds, forall_const, and_true, true_and] at hP)
                intro K hK
                simp only [fillA]
                go_simp
                have h2 := hK (.pointer (some ⟨w'.heap.size, 0, none⟩)) (w'.alloc (.cells #[.int .i64 0, .int .i64 0, .int .i64 0, .int .i64 0, .int .i64 0, .int .i64 0, .int .i64 0] 25)) (hB.alloc _) ⟨_, _, setY_at ys 15 _, hB.size, rfl, heap_alloc_new _ _⟩ (fun j _ h => h.gr ((Gr.refl _).alloc _)) (fun j _ => ⟨fun _ => trivial, fun _ => trivial⟩)
                simp [fillA, Act.put] at h2
                exact h2
              · (intro L ys w' hB hD hP hn; simp only [LAll, Region.binds, forall_const, and_true, true_and] at hP)
                have f13 : ys 13 = _ := hD.fact 13 (by first | exact hP | exact hP.1 | exact hP.2.1 | exact hP.2.2.1 | exact hP.2.2.2.1 | exact hP.2 | exact hP.2.2 | exact hP.2.2.2)
                obtain ⟨g, cs, hq, hge, hcs, hblk⟩ := hD.fact 15 (by first | exact hP | exact hP.1 | exact hP.2.1 | exact hP.2.2.1 | exact hP.2.2.2.1 | exact hP.2 | exact hP.2.2 | exact hP.2.2.2)
                have hs := setRow_heap w' g cs #[.int .i64 V.a0, .int .i64 V.a1, .int .i64 V.a2, .int .i64 V.a3, .int .i64 V.a4, .int .i64 V.a5, .int .i64 V.a6] 25 (0, 0) hblk
                have ho := fun k (hk : k ≠ g) => setRow_other w' g k #[.int .i64 V.a0, .int .i64 V.a1, .int .i64 V.a2, .int .i64 V.a3, .int .i64 V.a4, .int .i64 V.a5, .int .i64 V.a6] (by omega)
                intro K hK
                with_reducible refine wp_store_row 25 (.tmp 17) (.tmp 80) ?ho8 g #[.int .i64 V.a0, .int .i64 V.a1, .int .i64 V.a2, .int .i64 V.a3, .int .i64 V.a4, .int .i64 V.a5, .int .i64 V.a6] ?hx8 ?hy8 25 cs hblk ?hi8 ?hc8 ?h18 ?hh8
                case hc8 => exact hcs
                case ho8 => rfl
                case hx8 => simp [Act.eval, fillA, Act.put, hq]
                case hy8 => simp [Act.eval, fillA, Act.put, f13]
                case hi8 => kernel_rfl
                case h18 => simp [Value.oneCell']
                case hh8 => exact hK undef _ (setRow_gr hB hge) (rsF.at16 undef hq hge hs) (fun j hl h => h.set rfl hs ho (fun e => hn (e ▸ hl))) (fun j _ => ⟨fun _ => trivial, fun _ => trivial⟩)
              · (intro L ys w' hB hD hP hn; simp only [LAll, Region.binds, forall_const, and_true, true_and] at hP)
                have f14 : ys 14 = _ := hD.fact 14 (by first | exact hP | exact hP.1 | exact hP.2.1 | exact hP.2.2.1 | exact hP.2.2.2.1 | exact hP.2 | exact hP.2.2 | exact hP.2.2.2)
                intro K hK
                simp only [fillA]
                go_simp
                have h2 := hK (.bool ok) w' hB (setY_at ys 17 _) (fun j _ h => h) (fun j _ => ⟨fun _ => trivial, fun _ => trivial⟩)
                simp [fillA, Act.put, f14] at h2
                exact h2
            · intro ys w' hB hF _
              have f0 : ys 0 = _ := hF 0 (by decide)
              have f1 : ys 1 = _ := hF 1 (by decide)
              have f2 : ys 2 = _ := hF 2 (by decide)
              have f3 : ys 3 = _ := hF 3 (by decide)
              have f4 : ys 4 = _ := hF 4 (by decide)
              have f5 : ys 5 = _ := hF 5 (by decide)
              have f6 : ys 6 = _ := hF 6 (by decide)
              have f7 : ys 7 = _ := hF 7 (by decide)
              have f8 : ys 8 = _ := hF 8 (by decide)
              have f9 : ys 9 = _ := hF 9 (by decide)
              have f10 : ys 10 = _ := hF 10 (by decide)
              have f11 : ys 11 = _ := hF 11 (by decide)
              have f12 : ys 12 = _ := hF 12 (by decide)
              have f13 : ys 13 = _ := hF 13 (by decide)
              have f14 : ys 14 = _ := hF 14 (by decide)
              have f17 : ys 17 = _ := hF 17 (by decide)
              obtain ⟨p, f15, hpw, hpb⟩ := hF 16 (by decide)
              simp only [fillA, f0, f1, f2, f3, f4, f5, f6, f7, f8, f9, f10, f11, f12, f13, f14, f15, f17]
              clear hF f0 f1 f2 f3 f4 f5 f6 f7 f8 f9 f10 f11 f12 f13 f14 f15 f17 hdes hw1 hw2 hm1 hwm hid
              have z5' := hB.blk z5
              have z10' := hB.blk z10
              have hz' := hB.blk hz
              have hgr' := hgr.trans hB
              have hu' := hu.gr1 hB
              have htd : m.tdiv 2 = m / 2 := Int.tdiv_eq_ediv_of_nonneg hm0
              have hwd2 : IntKind.wrap .i64 (m / 2) = m / 2 := IntWalk.i64_in _ (by omega)
              have hkw : IntKind.wrap .i64 ((k : Int) + 1) = ((k + 1 : Nat) : Int) := by rw [IntWalk.i64_in _ (by omega)]; omega
              have hmx : m / 2 = (sz - 64) / 2 ^ (k + 1) := by
                rw [HME.out]
                rcases (by omega : k = 0 ∨ k = 1 ∨ k = 2 ∨ k = 3) with rfl | rfl | rfl | rfl <;> simp <;> omega
              have HMX := Lib.hid hmx
              clear hmx
              cases ok
              · have hnone : rstS sz X l (k + 1) = none := by
                  simp only [rstS, HK.out, Option.bind_some, hn]
                  rw [if_neg (by have := HY.out; omega), HWK.out, ← HID.out, ← HOK.out]; rfl
                have hr0 : r = (X, false) := by rw [HR.out, rstS_none hnone 4 (by omega)]
                clear hn
                subst hr0
                clear HRR HR z5 z10 hz
                have q5 := cells7 z5'
                go_wp2_with (refine wpList_store_seven rfl 25 _ _ rfl b10 #[.int .i64 X.a0, .int .i64 X.a1, .int .i64 X.a2, .int .i64 X.a3, .int .i64 X.a4, .int .i64 X.a5, .int .i64 X.a6] rfl rfl 25 _ z10' (by kernel_rfl) rfl (by kernel_rfl) ?_; intro w1 hh hu1)
                have q := cells7 hh
                exact bodyPost_ret (v := .tuple #[.agg #[.int .i64 X.a0, .int .i64 X.a1, .int .i64 X.a2, .int .i64 X.a3, .int .i64 X.a4, .int .i64 X.a5, .int .i64 X.a6], .bool false]) (by simp [results, Tryz.results37, go_sem, *]) rfl ⟨rfl, hgr'.upd1 hu1 hg10⟩
              · have hsome : rstS sz X l (k + 1) = some (V, y) := by
                  simp only [rstS, HK.out, Option.bind_some, hn]
                  rw [if_neg (by have := HY.out; omega), HWK.out, ← HID.out, ← HOK.out, if_pos rfl, ← HV0.out, ← HY.out]
                have HS := Lib.hid hsome
                clear hn hsome z5 z10 hz
                have qp := cells7 hpb
                go_wp2_with (refine wpList_store_seven rfl 25 _ _ rfl b12 #[.int .i64 V.a0, .int .i64 V.a1, .int .i64 V.a2, .int .i64 V.a3, .int .i64 V.a4, .int .i64 V.a5, .int .i64 V.a6] rfl rfl 25 _ hz' (by kernel_rfl) rfl (by kernel_rfl) ?_; intro w1 hh hu1)
                go_roundw
                case rel => exact ⟨k + 1, y, V, by omega, by go_num, rfl, by rw [HMX.out], HS, hh, hu'.transP hu1⟩
                case measure => simp [intOf]; omega
          · have hxm : (l.length : Int) - (x : Int) < 2 := by omega
            have hnone : rstS sz X l (k + 1) = none := by simp only [rstS, HK.out, Option.bind_some, hn]; rw [if_pos (by omega)]
            clear hn
            have hr0 : r = (X, false) := by rw [HR.out, rstS_none hnone 4 (by omega)]
            subst hr0
            clear HRR HR
            have q5 := cells7 z5
            go_wp2_with (refine wpList_store_seven rfl 25 _ _ rfl b10 #[.int .i64 X.a0, .int .i64 X.a1, .int .i64 X.a2, .int .i64 X.a3, .int .i64 X.a4, .int .i64 X.a5, .int .i64 X.a6] rfl rfl 25 _ z10 (by kernel_rfl) rfl (by kernel_rfl) ?_; intro w1 hh hu1)
            have q := cells7 hh
            exact bodyPost_ret (v := .tuple #[.agg #[.int .i64 X.a0, .int .i64 X.a1, .int .i64 X.a2, .int .i64 X.a3, .int .i64 X.a4, .int .i64 X.a5, .int .i64 X.a6], .bool false]) (by simp [results, Tryz.results37, go_sem, *]) rfl ⟨rfl, hgr.upd1 hu1 (by omega)⟩
        · have hxm : ¬ ((l.length : Int) - (x : Int) < 1) := by omega
          obtain ⟨m, hme⟩ : ∃ m, m = (sz - 64) / 2 ^ k := ⟨_, rfl⟩
          have hm0 : 0 ≤ m := by rw [hme]; exact Int.ediv_nonneg (by omega) (Int.pow_nonneg (by decide))
          have hml : m ≤ 15 := by rw [hme]; exact Int.le_trans (Int.ediv_le_self _ (by omega)) (by omega)
          obtain ⟨wd, hwd⟩ : ∃ wd, wd = decide (m % 2 = 1) := ⟨_, rfl⟩
          have hwk : wideK sz k = wd := by rw [hwd, hme]; rfl
          have hw1 : (m % 2 == 1) = wd := by rw [hwd]; rfl
          have hw2 : decide (m % 2 = 1) = wd := hwd.symm
          have hwm : IntKind.wrap .i64 (m % 2) = m % 2 := IntWalk.i64_in _ (by omega)
          rw [← hme]
          have HME := Lib.hid hme; have HWK := Lib.hid hwk
          clear hme hwk hwd
          have hm1 : m.tmod 2 = m % 2 := Int.tmod_eq_emod_of_nonneg hm0
          obtain ⟨y, hy⟩ : ∃ y, y = x + 1 := ⟨_, rfl⟩
          have hwx : IntKind.wrap .i64 ((x : Int) + 1) = (y : Int) := by rw [IntWalk.i64_in _ (by omega)]; omega
          have hyx : (x : Int) ≤ (y : Int) := by omega
          have hyl : (y : Int) ≤ (l.length : Int) := by omega
          have hx0 : (0 : Int) ≤ (x : Int) := by omega
          have hid := bsl_extract l x y
          rw [show y - x = 1 by omega] at hid
          have HY := Lib.hid hy
          clear hy
          obtain ⟨id, hid0⟩ : ∃ id, id = bsl ((l.drop x).take 1) := ⟨_, rfl⟩
          rw [← hid0] at hid
          obtain ⟨V, hV⟩ : ∃ V, V = doS 1 k wd id 0 Z := ⟨_, rfl⟩
          obtain ⟨ok, hok⟩ : ∃ ok, ok = desOk wd id k := ⟨_, rfl⟩
          have hdes : ∀ w, Calls Tryz.prog 79 #[.agg #[.int .i64 Z.a0, .int .i64 Z.a1, .int .i64 Z.a2, .int .i64 Z.a3, .int .i64 Z.a4, .int .i64 Z.a5, .int .i64 Z.a6], .int .i64 k, .bool wd, .string id] w fun e w' => e = .returned (.tuple #[.agg #[.int .i64 V.a0, .int .i64 V.a1, .int .i64 V.a2, .int .i64 V.a3, .int .i64 V.a4, .int .i64 V.a5, .int .i64 V.a6], .bool ok]) ∧ Gr w w' := by
            intro w
            have := rdes_any Z.a0 Z.a1 Z.a2 Z.a3 Z.a4 Z.a5 Z.a6 k wd id w
            rw [hV, hok, doS_des]
            exact this
          have HV0 := Lib.hid hV; have HOK := Lib.hid hok; have HID := Lib.hid hid0
          clear hV hok hid0
          go_wp2_with fail
          refine wp_region_facts5 (rsF wr 25 Z k x 1 y m wd id (bsl l) V ok) noD (Gr wr) (by kernel_rfl) (by kernel_rfl) (by kernel_rfl) ?_ ((Gr.refl _).drew) ?_ ?_
          · intro j o ho ys zs w' hj he hF
            match j, ho, hj, hF with
            | 0, ho, hj, hF | 1, ho, hj, hF | 2, ho, hj, hF | 3, ho, hj, hF | 4, ho, hj, hF | 5, ho, hj, hF | 6, ho, hj, hF | 7, ho, hj, hF | 8, ho, hj, hF | 9, ho, hj, hF | 10, ho, hj, hF | 11, ho, hj, hF | 12, ho, hj, hF | 13, ho, hj, hF | 14, ho, hj, hF | 15, ho, hj, hF | 17, ho, hj, hF => simp only [rsF] at hF ⊢; rw [← hj]; exact hF
            | 16, ho, hj, hF => 
              simp at ho; subst ho
              have := he ⟨15, .data⟩ (by simp) rfl
              simp only [rsF] at hF ⊢; rw [← this]; exact hF
            | _ + 18, ho, _, _ => exact trivial
          · refine Steps2.cons1 1 rfl rfl ?_ (Steps2.cons1 2 rfl rfl ?_ (Steps2.cons1 3 rfl rfl ?_ (Steps2.cons1 4 rfl rfl ?_ (Steps2.cons1 5 rfl rfl ?_ (Steps2.cons1 6 rfl rfl ?_ (Steps2.cons1 7 rfl rfl ?_ (Steps2.cons1 8 rfl rfl ?_ (Steps2.cons1 9 rfl rfl ?_ (Steps2.cons1 10 rfl rfl ?_ (Steps2.cons1 11 rfl rfl ?_ (Steps2.cons1 12 rfl rfl ?_ (Steps2.cons1 13 rfl rfl ?_ (Steps2.cons1 14 rfl rfl ?_ (Steps2.cons1 15 rfl rfl ?_ (Steps2.cons1 16 rfl rfl ?_ (Steps2.cons1 17 rfl rfl ?_ (Steps2.cons1 18 rfl rfl ?_ (Steps2.nil))))))))))))))))))
            · (intro L ys w' hB hD hP hn; simp only [LAll, Region.binds, forall_const, and_true, true_and] at hP)
              have q := cells7 (hB.blk hz)
              intro K hK
              simp only [fillA]
              go_simp
              have h2 := hK (.agg #[.int .i64 Z.a0, .int .i64 Z.a1, .int .i64 Z.a2, .int .i64 Z.a3, .int .i64 Z.a4, .int .i64 Z.a5, .int .i64 Z.a6]) w' hB (setY_at ys 0 _) (fun j _ h => h) (fun j _ => ⟨fun _ => trivial, fun _ => trivial⟩)
              simp [fillA, Act.put] at h2
              exact h2
            · (intro L ys w' hB hD hP hn; simp only [LAll, Region.binds, forall_const, and_true, true_and] at hP)
              intro K hK
              simp only [fillA]
              go_simp
              have h2 := hK (.int .i64 (k : Int)) w' hB (setY_at ys 1 _) (fun j _ h => h) (fun j _ => ⟨fun _ => trivial, fun _ => trivial⟩)
              simp [fillA, Act.put] at h2
              exact h2
            · (intro L ys w' hB hD hP hn; simp only [LAll, Region.binds, forall_const, and_true, true_and] at hP)
              intro K hK
              simp only [fillA]
              go_simp
              have h2 := hK (.int .i64 m) w' hB (setY_at ys 2 _) (fun j _ h => h) (fun j _ => ⟨fun _ => trivial, fun _ => trivial⟩)
              simp [fillA, Act.put] at h2
              exact h2
            · (intro L ys w' hB hD hP hn; simp only [LAll, Region.binds, forall_const, and_true, true_and] at hP)
              have f2 : ys 2 = _ := hD.fact 2 (by first | exact hP | exact hP.1 | exact hP.2.1 | exact hP.2.2.1 | exact hP.2.2.2.1 | exact hP.2 | exact hP.2.2 | exact hP.2.2.2)
              intro K hK
              simp only [fillA]
              go_simp
              have h2 := hK (.int .i64 (m % 2)) w' hB (setY_at ys 3 _) (fun j _ h => h) (fun j _ => ⟨fun _ => trivial, fun _ => trivial⟩)
              simp [fillA, Act.put, f2] at h2
              exact h2
            · (intro L ys w' hB hD hP hn; simp only [LAll, Region.binds, forall_const, and_true, true_and] at hP)
              have f3 : ys 3 = _ := hD.fact 3 (by first | exact hP | exact hP.1 | exact hP.2.1 | exact hP.2.2.1 | exact hP.2.2.2.1 | exact hP.2 | exact hP.2.2 | exact hP.2.2.2)
              intro K hK
              simp only [fillA]
              go_simp
              have h2 := hK (.bool wd) w' hB (setY_at ys 4 _) (fun j _ h => h) (fun j _ => ⟨fun _ => trivial, fun _ => trivial⟩)
              simp [fillA, Act.put, f3] at h2
              exact h2
            · (intro L ys w' hB hD hP hn; simp only [LAll, Region.binds, forall_const, and_true, true_and] at hP)
              intro K hK
              simp only [fillA]
              go_simp
              have h2 := hK (.string (bsl l)) w' hB (setY_at ys 5 _) (fun j _ h => h) (fun j _ => ⟨fun _ => trivial, fun _ => trivial⟩)
              simp [fillA, Act.put] at h2
              exact h2
            · (intro L ys w' hB hD hP hn; simp only [LAll, Region.binds, forall_const, and_true, true_and] at hP)
              intro K hK
              simp only [fillA]
              go_simp
              have h2 := hK (.int .i64 (x : Int)) w' hB (setY_at ys 6 _) (fun j _ h => h) (fun j _ => ⟨fun _ => trivial, fun _ => trivial⟩)
              simp [fillA, Act.put] at h2
              exact h2
            · (intro L ys w' hB hD hP hn; simp only [LAll, Region.binds, forall_const, and_true, true_and] at hP)
              intro K hK
              simp only [fillA]
              go_simp
              have h2 := hK (.int .i64 (x : Int)) w' hB (setY_at ys 7 _) (fun j _ h => h) (fun j _ => ⟨fun _ => trivial, fun _ => trivial⟩)
              simp [fillA, Act.put] at h2
              exact h2
            · (intro L ys w' hB hD hP hn; simp only [LAll, Region.binds, forall_const, and_true, true_and] at hP)
              intro K hK
              simp only [fillA]
              go_simp
              have h2 := hK (.int .i64 1) w' hB (setY_at ys 8 _) (fun j _ h => h) (fun j _ => ⟨fun _ => trivial, fun _ => trivial⟩)
              simp [fillA, Act.put] at h2
              exact h2
            · (intro L ys w' hB hD hP hn; simp only [LAll, Region.binds, forall_const, and_true, true_and] at hP)
              have f7 : ys 7 = _ := hD.fact 7 (by first | exact hP | exact hP.1 | exact hP.2.1 | exact hP.2.2.1 | exact hP.2.2.2.1 | exact hP.2 | exact hP.2.2 | exact hP.2.2.2)
              have f8 : ys 8 = _ := hD.fact 8 (by first | exact hP | exact hP.1 | exact hP.2.1 | exact hP.2.2.1 | exact hP.2.2.2.1 | exact hP.2 | exact hP.2.2 | exact hP.2.2.2)
              intro K hK
              simp only [fillA]
              go_simp
              have h2 := hK (.int .i64 (y : Int)) w' hB (setY_at ys 9 _) (fun j _ h => h) (fun j _ => ⟨fun _ => trivial, fun _ => trivial⟩)
              simp [fillA, Act.put, f7, f8] at h2
              exact h2
            · (intro L ys w' hB hD hP hn; simp only [LAll, Region.binds, forall_const, and_true, true_and] at hP)
              have f5 : ys 5 = _ := hD.fact 5 (by first | exact hP | exact hP.1 | exact hP.2.1 | exact hP.2.2.1 | exact hP.2.2.2.1 | exact hP.2 | exact hP.2.2 | exact hP.2.2.2)
              have f6 : ys 6 = _ := hD.fact 6 (by first | exact hP | exact hP.1 | exact hP.2.1 | exact hP.2.2.1 | exact hP.2.2.2.1 | exact hP.2 | exact hP.2.2 | exact hP.2.2.2)
              have f9 : ys 9 = _ := hD.fact 9 (by first | exact hP | exact hP.1 | exact hP.2.1 | exact hP.2.2.1 | exact hP.2.2.2.1 | exact hP.2 | exact hP.2.2 | exact hP.2.2.2)
              intro K hK
              simp only [fillA]
              go_simp
              have h2 := hK (.string id) w' hB (setY_at ys 10 _) (fun j _ h => h) (fun j _ => ⟨fun _ => trivial, fun _ => trivial⟩)
              simp [fillA, Act.put, f5, f6, f9] at h2
              exact h2
            · (intro L ys w' hB hD hP hn; simp only [LAll, Region.binds, forall_const, and_true, true_and] at hP)
              have f0 : ys 0 = _ := hD.fact 0 (by first | exact hP | exact hP.1 | exact hP.2.1 | exact hP.2.2.1 | exact hP.2.2.2.1 | exact hP.2 | exact hP.2.2 | exact hP.2.2.2)
              have f1 : ys 1 = _ := hD.fact 1 (by first | exact hP | exact hP.1 | exact hP.2.1 | exact hP.2.2.1 | exact hP.2.2.2.1 | exact hP.2 | exact hP.2.2 | exact hP.2.2.2)
              have f4 : ys 4 = _ := hD.fact 4 (by first | exact hP | exact hP.1 | exact hP.2.1 | exact hP.2.2.1 | exact hP.2.2.2.1 | exact hP.2 | exact hP.2.2 | exact hP.2.2.2)
              have f10 : ys 10 = _ := hD.fact 10 (by first | exact hP | exact hP.1 | exact hP.2.1 | exact hP.2.2.1 | exact hP.2.2.2.1 | exact hP.2 | exact hP.2.2 | exact hP.2.2.2)
              intro K hK
              simp only [fillA]
              go_simp
              refine (hdes _).mono ?_
              rintro e w4 ⟨rfl, hg⟩
              have h2 := hK (.tuple #[.agg #[.int .i64 V.a0, .int .i64 V.a1, .int .i64 V.a2, .int .i64 V.a3, .int .i64 V.a4, .int .i64 V.a5, .int .i64 V.a6], .bool ok]) w4 (hB.trans hg) (setY_at ys 11 _) (fun j _ h => h.gr hg) (fun j _ => ⟨fun _ => trivial, fun _ => trivial⟩)
              simp [fillA, Act.put, f0, f1, f4, f10] at h2
              exact h2
            · (intro L ys w' hB hD hP hn; simp only [LAll, Region.binds, forall_const, and_true, true_and] at hP)
              have f11 : ys 11 = _ := hD.fact 11 (by first | exact hP | exact hP.1 | exact hP.2.1 | exact hP.2.2.1 | exact hP.2.2.2.1 | exact hP.2 | exact hP.2.2 | exact hP.2.2.2)
              intro K hK
              simp only [fillA]
              go_simp
              have h2 := hK (.tuple #[.agg #[.int .i64 V.a0, .int .i64 V.a1, .int .i64 V.a2, .int .i64 V.a3, .int .i64 V.a4, .int .i64 V.a5, .int .i64 V.a6], .bool ok]) w' hB (setY_at ys 12 _) (fun j _ h => h) (fun j _ => ⟨fun _ => trivial, fun _ => trivial⟩)
              simp [fillA, Act.put, f11] at h2
              exact h2
            · (intro L ys w' hB hD hP hn; simp only [LAll, Region.binds, forall_const, and_true, true_and] at hP)
              have f12 : ys 12 = _ := hD.fact 12 (by first | exact hP | exact hP.1 | exact hP.2.1 | exact hP.2.2.1 | exact hP.2.2.2.1 | exact hP.2 | exact hP.2.2 | exact hP.2.2.2)
              intro K hK
              simp only [fillA]
              go_simp
              have h2 := hK (.agg #[.int .i64 V.a0, .int .i64 V.a1, .int .i64 V.a2, .int .i64 V.a3, .int .i64 V.a4, .int .i64 V.a5, .int .i64 V.a6]) w' hB (setY_at ys 13 _) (fun j _ h => h) (fun j _ => ⟨fun _ => trivial, fun _ => trivial⟩)
              simp [fillA, Act.put, f12] at h2
              exact h2
            · (intro L ys w' hB hD hP hn; simp only [LAll, Region.binds, forall_const, and_true, true_and] at hP)
              have f12 : ys 12 = _ := hD.fact 12 (by first | exact hP | exact hP.1 | exact hP.2.1 | exact hP.2.2.1 | exact hP.2.2.2.1 | exact hP.2 | exact hP.2.2 | exact hP.2.2.2)
              intro K hK
              simp only [fillA]
              go_simp
              have h2 := hK (.bool ok) w' hB (setY_at ys 14 _) (fun j _ h => h) (fun j _ => ⟨fun _ => trivial, fun _ => trivial⟩)
              simp [fillA, Act.put, f12] at h2
              exact h2
            · (intro L ys w' hB hD hP hn; simp only [LAll, Region.binds, forall_const, and_true, true_and] at hP)
              intro K hK
              simp only [fillA]
              go_simp
              have h2 := hK (.pointer (some ⟨w'.heap.size, 0, none⟩)) (w'.alloc (.cells #[.int .i64 0, .int .i64 0, .int .i64 0, .int .i64 0, .int .i64 0, .int .i64 0, .int .i64 0] 25)) (hB.alloc _) ⟨_, _, setY_at ys 15 _, hB.size, rfl, heap_alloc_new _ _⟩ (fun j _ h => h.gr ((Gr.refl _).alloc _)) (fun j _ => ⟨fun _ => trivial, fun _ => trivial⟩)
              simp [fillA, Act.put] at h2
              exact h2
            · (intro L ys w' hB hD hP hn; simp only [LAll, Region.binds, forall_const, and_true, true_and] at hP)
              have f13 : ys 13 = _ := hD.fact 13 (by first | exact hP | exact hP.1 | exact hP.2.1 | exact hP.2.2.1 | exact hP.2.2.2.1 | exact hP.2 | exact hP.2.2 | exact hP.2.2.2)
              obtain ⟨g, cs, hq, hge, hcs, hblk⟩ := hD.fact 15 (by first | exact hP | exact hP.1 | exact hP.2.1 | exact hP.2.2.1 | exact hP.2.2.2.1 | exact hP.2 | exact hP.2.2 | exact hP.2.2.2)
              have hs := setRow_heap w' g cs #[.int .i64 V.a0, .int .i64 V.a1, .int .i64 V.a2, .int .i64 V.a3, .int .i64 V.a4, .int .i64 V.a5, .int .i64 V.a6] 25 (0, 0) hblk
              have ho := fun k (hk : k ≠ g) => setRow_other w' g k #[.int .i64 V.a0, .int .i64 V.a1, .int .i64 V.a2, .int .i64 V.a3, .int .i64 V.a4, .int .i64 V.a5, .int .i64 V.a6] (by omega)
              intro K hK
              with_reducible refine wp_store_row 25 (.tmp 17) (.tmp 80) ?ho8 g #[.int .i64 V.a0, .int .i64 V.a1, .int .i64 V.a2, .int .i64 V.a3, .int .i64 V.a4, .int .i64 V.a5, .int .i64 V.a6] ?hx8 ?hy8 25 cs hblk ?hi8 ?hc8 ?h18 ?hh8
              case hc8 => exact hcs
              case ho8 => rfl
              case hx8 => simp [Act.eval, fillA, Act.put, hq]
              case hy8 => simp [Act.eval, fillA, Act.put, f13]
              case hi8 => kernel_rfl
              case h18 => simp [Value.oneCell']
              case hh8 => exact hK undef _ (setRow_gr hB hge) (rsF.at16 undef hq hge hs) (fun j hl h => h.set rfl hs ho (fun e => hn (e ▸ hl))) (fun j _ => ⟨fun _ => trivial, fun _ => trivial⟩)
            · (intro L ys w' hB hD hP hn; simp only [LAll, Region.binds, forall_const, and_true, true_and] at hP)
              have f14 : ys 14 = _ := hD.fact 14 (by first | exact hP | exact hP.1 | exact hP.2.1 | exact hP.2.2.1 | exact hP.2.2.2.1 | exact hP.2 | exact hP.2.2 | exact hP.2.2.2)
              intro K hK
              simp only [fillA]
              go_simp
              have h2 := hK (.bool ok) w' hB (setY_at ys 17 _) (fun j _ h => h) (fun j _ => ⟨fun _ => trivial, fun _ => trivial⟩)
              simp [fillA, Act.put, f14] at h2
              exact h2
          · intro ys w' hB hF _
            have f0 : ys 0 = _ := hF 0 (by decide)
            have f1 : ys 1 = _ := hF 1 (by decide)
            have f2 : ys 2 = _ := hF 2 (by decide)
            have f3 : ys 3 = _ := hF 3 (by decide)
            have f4 : ys 4 = _ := hF 4 (by decide)
            have f5 : ys 5 = _ := hF 5 (by decide)
            have f6 : ys 6 = _ := hF 6 (by decide)
            have f7 : ys 7 = _ := hF 7 (by decide)
            have f8 : ys 8 = _ := hF 8 (by decide)
            have f9 : ys 9 = _ := hF 9 (by decide)
            have f10 : ys 10 = _ := hF 10 (by decide)
            have f11 : ys 11 = _ := hF 11 (by decide)
            have f12 : ys 12 = _ := hF 12 (by decide)
            have f13 : ys 13 = _ := hF 13 (by decide)
            have f14 : ys 14 = _ := hF 14 (by decide)
            have f17 : ys 17 = _ := hF 17 (by decide)
            obtain ⟨p, f15, hpw, hpb⟩ := hF 16 (by decide)
            simp only [fillA, f0, f1, f2, f3, f4, f5, f6, f7, f8, f9, f10, f11, f12, f13, f14, f15, f17]
            clear hF f0 f1 f2 f3 f4 f5 f6 f7 f8 f9 f10 f11 f12 f13 f14 f15 f17 hdes hw1 hw2 hm1 hwm hid
            have z5' := hB.blk z5
            have z10' := hB.blk z10
            have hz' := hB.blk hz
            have hgr' := hgr.trans hB
            have hu' := hu.gr1 hB
            have htd : m.tdiv 2 = m / 2 := Int.tdiv_eq_ediv_of_nonneg hm0
            have hwd2 : IntKind.wrap .i64 (m / 2) = m / 2 := IntWalk.i64_in _ (by omega)
            have hkw : IntKind.wrap .i64 ((k : Int) + 1) = ((k + 1 : Nat) : Int) := by rw [IntWalk.i64_in _ (by omega)]; omega
            have hmx : m / 2 = (sz - 64) / 2 ^ (k + 1) := by
              rw [HME.out]
              rcases (by omega : k = 0 ∨ k = 1 ∨ k = 2 ∨ k = 3) with rfl | rfl | rfl | rfl <;> simp <;> omega
            have HMX := Lib.hid hmx
            clear hmx
            cases ok
            · have hnone : rstS sz X l (k + 1) = none := by
                simp only [rstS, HK.out, Option.bind_some, hn]
                rw [if_neg (by have := HY.out; omega), HWK.out, ← HID.out, ← HOK.out]; rfl
              have hr0 : r = (X, false) := by rw [HR.out, rstS_none hnone 4 (by omega)]
              clear hn
              subst hr0
              clear HRR HR z5 z10 hz
              have q5 := cells7 z5'
              go_wp2_with (refine wpList_store_seven rfl 25 _ _ rfl b10 #[.int .i64 X.a0, .int .i64 X.a1, .int .i64 X.a2, .int .i64 X.a3, .int .i64 X.a4, .int .i64 X.a5, .int .i64 X.a6] rfl rfl 25 _ z10' (by kernel_rfl) rfl (by kernel_rfl) ?_; intro w1 hh hu1)
              have q := cells7 hh
              exact bodyPost_ret (v := .tuple #[.agg #[.int .i64 X.a0, .int .i64 X.a1, .int .i64 X.a2, .int .i64 X.a3, .int .i64 X.a4, .int .i64 X.a5, .int .i64 X.a6], .bool false]) (by simp [results, Tryz.results37, go_sem, *]) rfl ⟨rfl, hgr'.upd1 hu1 hg10⟩
            · have hsome : rstS sz X l (k + 1) = some (V, y) := by
                simp only [rstS, HK.out, Option.bind_some, hn]
                rw [if_neg (by have := HY.out; omega), HWK.out, ← HID.out, ← HOK.out, if_pos rfl, ← HV0.out, ← HY.out]
              have HS := Lib.hid hsome
              clear hn hsome z5 z10 hz
              have qp := cells7 hpb
              go_wp2_with (refine wpList_store_seven rfl 25 _ _ rfl b12 #[.int .i64 V.a0, .int .i64 V.a1, .int .i64 V.a2, .int .i64 V.a3, .int .i64 V.a4, .int .i64 V.a5, .int .i64 V.a6] rfl rfl 25 _ hz' (by kernel_rfl) rfl (by kernel_rfl) ?_; intro w1 hh hu1)
              go_roundw
              case rel => exact ⟨k + 1, y, V, by omega, by go_num, rfl, by rw [HMX.out], HS, hh, hu'.transP hu1⟩
              case measure => simp [intOf]; omega
      · have hxn : ¬ (x : Int) < (l.length : Int) := by omega
        have hxe : x = l.length := by omega
        have hxm : (l.length : Int) - (x : Int) < 1 := by omega
        have hnone : rstS sz X l (k + 1) = none := by
          have : idN (l.drop x) = 1 := by rw [List.drop_eq_nil_of_le (by omega)]; rfl
          simp only [rstS, HK.out, Option.bind_some, this]; rw [if_pos (by omega)]
        clear hxe
        have hr0 : r = (X, false) := by rw [HR.out, rstS_none hnone 4 (by omega)]
        subst hr0
        clear HRR HR
        have q5 := cells7 z5
        go_wp2_with (refine wpList_store_seven rfl 25 _ _ rfl b10 #[.int .i64 X.a0, .int .i64 X.a1, .int .i64 X.a2, .int .i64 X.a3, .int .i64 X.a4, .int .i64 X.a5, .int .i64 X.a6] rfl rfl 25 _ z10 (by kernel_rfl) rfl (by kernel_rfl) ?_; intro w1 hh hu1)
        have q := cells7 hh
        exact bodyPost_ret (v := .tuple #[.agg #[.int .i64 X.a0, .int .i64 X.a1, .int .i64 X.a2, .int .i64 X.a3, .int .i64 X.a4, .int .i64 X.a5, .int .i64 X.a6], .bool false]) (by simp [results, Tryz.results37, go_sem, *]) rfl ⟨rfl, hgr.upd1 hu1 (by omega)⟩
    · have hkn : ¬ (k : Int) < 4 := by omega
      obtain rfl : k = 4 := by omega
      by_cases hxl : x < l.length
      · have hxn : (x : Int) < (l.length : Int) := by omega
        have hr0 : r = (X, false) := by rw [HR.out, HK.out]; simp; omega
        subst hr0
        clear HRR HR
        have q5 := cells7 z5
        go_wp2_with (refine wpList_store_seven rfl 25 _ _ rfl b10 #[.int .i64 X.a0, .int .i64 X.a1, .int .i64 X.a2, .int .i64 X.a3, .int .i64 X.a4, .int .i64 X.a5, .int .i64 X.a6] rfl rfl 25 _ z10 (by kernel_rfl) rfl (by kernel_rfl) ?_; intro w1 hh hu1)
        have q := cells7 hh
        exact bodyPost_ret (v := .tuple #[.agg #[.int .i64 X.a0, .int .i64 X.a1, .int .i64 X.a2, .int .i64 X.a3, .int .i64 X.a4, .int .i64 X.a5, .int .i64 X.a6], .bool false]) (by simp [results, Tryz.results37, go_sem, *]) rfl ⟨rfl, hgr.upd1 hu1 (by omega)⟩
      · have hxn : ¬ (x : Int) < (l.length : Int) := by omega
        have hr0 : r = ({ Z with a4 := gl, a5 := gr }, true) := by rw [HR.out, HK.out]; simp; omega
        subst hr0
        clear HRR HR
        have q12 := cells7 hz
        have h10 := blk_far (blk_far z10 (p := ⟨b12, 4, none⟩) n1 (.int .i64 gl)) (p := ⟨b12, 5, none⟩) n1 (.int .i64 gr)
        go_wp2_with (refine wpList_store_seven rfl 25 _ _ rfl b10 #[.int .i64 Z.a0, .int .i64 Z.a1, .int .i64 Z.a2, .int .i64 Z.a3, .int .i64 gl, .int .i64 gr, .int .i64 Z.a6] rfl rfl 25 _ h10 (by kernel_rfl) rfl (by kernel_rfl) ?_; intro w1 hh hu1)
        have q := cells7 hh
        exact bodyPost_ret (v := .tuple #[.agg #[.int .i64 Z.a0, .int .i64 Z.a1, .int .i64 Z.a2, .int .i64 Z.a3, .int .i64 gl, .int .i64 gr, .int .i64 Z.a6], .bool true]) (by simp [results, Tryz.results37, go_sem, *]) rfl ⟨rfl, ((hgr.setCell hg12 _).setCell hg12 _).upd1 hu1 hg10⟩
end Go.Proofs.YtfkecgkfcldffaaGreatDoor
