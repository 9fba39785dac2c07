/-
  Restoring sets out of what was reported of them, in the program's text.
-/
import Derived.Test.YtfkecgkfcldffaaGreatDoorZIsT
namespace Go.Proofs.YtfkecgkfcldffaaGreatDoor
set_option linter.unusedSimpArgs false
set_option linter.unusedVariables false
open Go.RowKit
set_option linter.unusedVariables false

theorem and1u (c : Int) (h0 : 0 ≤ c) (h1 : c < 256) : bits BinOp.and IntKind.u8 c 1 = c % 2 := by
  have H : ∀ k : Fin 256, bits BinOp.and IntKind.u8 (k.val : Int) 1 = (k.val : Int) % 2 := by decide +kernel
  have := H ⟨c.toNat, by omega⟩
  simpa [Int.toNat_of_nonneg h0] using this
theorem andNot15 (c : Int) (h0 : 0 ≤ c) (h1 : c < 256) : bits BinOp.andNot IntKind.u8 c 15 = c - c % 16 := by
  have H : ∀ k : Fin 256, bits BinOp.andNot IntKind.u8 (k.val : Int) 15 = (k.val : Int) - (k.val : Int) % 16 := by decide +kernel
  have := H ⟨c.toNat, by omega⟩
  simpa [Int.toNat_of_nonneg h0] using this

set_option maxRecDepth 100000 in
set_option maxHeartbeats 1000000 in
theorem rst_bad (X : S7) (gl gr sz : Int) (l : List UInt8) (w : World) (hsz : 0 ≤ sz ∧ sz < 256) (hb : ¬ (between 0 3 gl = true ∧ between 1 3 gr = true ∧ between 64 79 sz = true)) :
    Calls Tryz.prog 32 #[.agg X.cells, .int .i64 gl, .int .i64 gr, .int .u8 sz, .string (bsl l)] w fun e w' => e = .returned (.tuple #[.agg X.cells, .bool false]) ∧ Gr w w' := by
  unfold S7.cells
  have n0 := fun w => number_any gl 0 w (by decide)
  have n1 := fun w => number_any gr 1 w (by decide)
  have n2 := andNot15 sz hsz.1 hsz.2
  have h : between 0 3 gl = false ∨ (between 0 3 gl = true ∧ between 1 3 gr = false) ∨ (between 0 3 gl = true ∧ between 1 3 gr = true ∧ ¬ sz - sz % 16 = 64) := by
    rcases h1 : between 0 3 gl <;> rcases h2 : between 1 3 gr
    · simp
    · simp
    · simp
    · right; right
      have : ¬ between 64 79 sz = true := fun h3 => hb ⟨h1, h2, h3⟩
      refine ⟨rfl, rfl, ?_⟩
      simp [between] at this
      omega
  clear hb
  rcases h with h1 | ⟨h1, h2⟩ | ⟨h1, h2, h3⟩
  · rw [h1] at n0
    go_enter Tryz.func32, Tryz.ntmps32
    go_wp2_with (first
      | (go_at_call 73; refine (n0 _).mono ?_; rintro e w1 ⟨rfl, rfl⟩))
    exact bodyPost_ret (v := .tuple #[.agg #[.int .i64 X.a0, .int .i64 X.a1, .int .i64 X.a2, .int .i64 X.a3, .int .i64 X.a4, .int .i64 X.a5, .int .i64 X.a6], .bool false]) (by simp [results, Tryz.results32, go_sem]) rfl ⟨rfl, by (repeat (first | with_reducible (refine Gr.setCell ?_ ?hp _; case hp => (simp; try omega)) | with_reducible refine Gr.alloc ?_ _ | with_reducible refine Gr.drew ?_ | with_reducible refine Gr.drewN ?_ _ | with_reducible assumption | with_reducible exact Gr.refl _ | with_reducible refine Gr.trans ?_ (by assumption)))⟩
  · rw [h1] at n0
    rw [h2] at n1
    go_enter Tryz.func32, Tryz.ntmps32
    go_wp2_with (first
      | (go_at_call 73; (with_reducible refine (n0 _).mono ?_); rintro e w1 ⟨rfl, rfl⟩)
      | (go_at_call 73; (with_reducible refine (n1 _).mono ?_); rintro e w2 ⟨rfl, rfl⟩))
    exact bodyPost_ret (v := .tuple #[.agg #[.int .i64 X.a0, .int .i64 X.a1, .int .i64 X.a2, .int .i64 X.a3, .int .i64 X.a4, .int .i64 X.a5, .int .i64 X.a6], .bool false]) (by simp [results, Tryz.results32, go_sem]) rfl ⟨rfl, by (repeat (first | with_reducible (refine Gr.setCell ?_ ?hp _; case hp => (simp; try omega)) | with_reducible refine Gr.alloc ?_ _ | with_reducible refine Gr.drew ?_ | with_reducible refine Gr.drewN ?_ _ | with_reducible assumption | with_reducible exact Gr.refl _ | with_reducible refine Gr.trans ?_ (by assumption)))⟩
  · rw [h1] at n0
    rw [h2] at n1
    go_enter Tryz.func32, Tryz.ntmps32
    go_wp2_with (first
      | (go_at_call 73; (with_reducible refine (n0 _).mono ?_); rintro e w1 ⟨rfl, rfl⟩)
      | (go_at_call 73; (with_reducible refine (n1 _).mono ?_); rintro e w2 ⟨rfl, rfl⟩))
    exact bodyPost_ret (v := .tuple #[.agg #[.int .i64 X.a0, .int .i64 X.a1, .int .i64 X.a2, .int .i64 X.a3, .int .i64 X.a4, .int .i64 X.a5, .int .i64 X.a6], .bool false]) (by simp [results, Tryz.results32, go_sem]) rfl ⟨rfl, by (repeat (first | with_reducible (refine Gr.setCell ?_ ?hp _; case hp => (simp; try omega)) | with_reducible refine Gr.alloc ?_ _ | with_reducible refine Gr.drew ?_ | with_reducible refine Gr.drewN ?_ _ | with_reducible assumption | with_reducible exact Gr.refl _ | with_reducible refine Gr.trans ?_ (by assumption)))⟩
def usF (w0 : World) (T : TypeId) (Z : S7) (k sz q4 q5 : Int) (wd : Bool) (id : ByteArray) (V : S7) (ok : Bool) : Nat → (Nat → Value) → World → Prop
  | 0, ys, _ => ys 0 = .agg #[.int .i64 Z.a0, .int .i64 Z.a1, .int .i64 Z.a2, .int .i64 Z.a3, .int .i64 Z.a4, .int .i64 Z.a5, .int .i64 Z.a6]
  | 1, ys, _ => ys 1 = .int .i64 k
  | 2, ys, _ => ys 2 = .int .u8 sz
  | 3, ys, _ => ys 3 = .int .i64 k
  | 4, ys, _ => ys 4 = .int .u8 q4
  | 5, ys, _ => ys 5 = .int .u8 q5
  | 6, ys, _ => ys 6 = .bool wd
  | 7, ys, _ => ys 7 = .string id
  | 8, ys, _ => ys 8 = .tuple #[.agg #[.int .i64 V.a0, .int .i64 V.a1, .int .i64 V.a2, .int .i64 V.a3, .int .i64 V.a4, .int .i64 V.a5, .int .i64 V.a6], .bool ok]
  | 9, ys, _ => ys 9 = .tuple #[.agg #[.int .i64 V.a0, .int .i64 V.a1, .int .i64 V.a2, .int .i64 V.a3, .int .i64 V.a4, .int .i64 V.a5, .int .i64 V.a6], .bool ok]
  | 10, ys, _ => ys 10 = .agg #[.int .i64 V.a0, .int .i64 V.a1, .int .i64 V.a2, .int .i64 V.a3, .int .i64 V.a4, .int .i64 V.a5, .int .i64 V.a6]
  | 11, ys, _ => ys 11 = .bool ok
  | 12, ys, w => ∃ p cs, ys 12 = .pointer (some ⟨p, 0, none⟩) ∧ w0.heap.size ≤ p ∧ cs.size = 7 ∧ w.heap[p]? = some (.cells cs T (0, 0))
  | 13, ys, w => ∃ p, ys 12 = .pointer (some ⟨p, 0, none⟩) ∧ w0.heap.size ≤ p ∧ w.heap[p]? = some (.cells #[.int .i64 V.a0, .int .i64 V.a1, .int .i64 V.a2, .int .i64 V.a3, .int .i64 V.a4, .int .i64 V.a5, .int .i64 V.a6] T (0, 0))
  | 14, ys, _ => ys 14 = .bool ok
  | _, _, _ => True
theorem usF.gr {w0 w w' : World} {T : TypeId} {Z V : S7} {k sz q4 q5 : Int} {wd ok : Bool} {id : ByteArray} {j : Nat} {ys : Nat → Value} (h : usF w0 T Z k sz q4 q5 wd id V ok j ys w) (hg : Gr w w') : usF w0 T Z k sz q4 q5 wd id V ok j ys w' := by
  match j, h with
  | 0, h | 1, h | 2, h | 3, h | 4, h | 5, h | 6, h | 7, h | 8, h | 9, h | 10, h | 11, h | 14, h => exact h
  | 12, h => obtain ⟨p, cs, h1, h2, h3, h4⟩ := h; exact ⟨p, cs, h1, h2, h3, hg.blk h4⟩
  | 13, h => obtain ⟨p, h1, h2, h3⟩ := h; exact ⟨p, h1, h2, hg.blk h3⟩
  | _ + 15, _ => exact trivial
theorem usF.set {w0 w w' : World} {T : TypeId} {Z V : S7} {k sz q4 q5 : Int} {wd ok : Bool} {id : ByteArray} {j g : Nat} {ys : Nat → Value} {cells : Array Value} (h : usF w0 T Z k sz q4 q5 wd id V ok j ys w) (hcs : cells.size = 7)
    (hs : w'.heap[g]? = some (.cells cells T (0, 0))) (hb : ∀ k, k ≠ g → w'.heap[k]? = w.heap[k]?) (h16 : j ≠ 13) : usF w0 T Z k sz q4 q5 wd id V ok j ys w' := by
  match j, h with
  | 0, h | 1, h | 2, h | 3, h | 4, h | 5, h | 6, h | 7, h | 8, h | 9, h | 10, h | 11, h | 14, h => exact h
  | 12, h =>
    obtain ⟨p, cs, h1, h2, h3, h4⟩ := h
    by_cases e : p = g
    · subst e; exact ⟨p, cells, h1, h2, hcs, hs⟩
    · exact ⟨p, cs, h1, h2, h3, (hb p e).trans h4⟩
  | 13, _ => exact absurd rfl h16
  | _ + 15, _ => exact trivial
theorem usF.at13 {w0 w : World} {T : TypeId} {Z V : S7} {k sz q4 q5 : Int} {wd ok : Bool} {id : ByteArray} {g : Nat} {ys : Nat → Value} (v : Value) (hq : ys 12 = .pointer (some ⟨g, 0, none⟩)) (hge : w0.heap.size ≤ g) (hs : w.heap[g]? = some (.cells #[.int .i64 V.a0, .int .i64 V.a1, .int .i64 V.a2, .int .i64 V.a3, .int .i64 V.a4, .int .i64 V.a5, .int .i64 V.a6] T (0, 0))) :
    usF w0 T Z k sz q4 q5 wd id V ok 13 (setY ys 13 v) w := ⟨g, hq, hge, hs⟩
/-- A text that ends too early names no set. -/
theorem short_bad (d : List UInt8) (wd : Bool) (k : Int) (h : d.length < idN d) : desOk wd (bsl (d.take (min (idN d) d.length))) k = false := by
  have h2 : idN d ≤ 2 := by unfold idN; split <;> omega
  rw [List.take_of_length_le (by omega)]
  match d, h, h2 with
  | [], _, _ => cases wd <;> (have : ∀ b, findP b (bsl []) = 0 := by decide +kernel) <;> simp [desOk, this]
  | [c], h, _ =>
    have hc : c = 37 := by
      unfold idN Lib.hasPrefix at h
      split at h
      · rename_i h1; exact (by simpa using h1 : (37 : UInt8) = c).symm
      · simp at h
    subst hc
    have : ∀ b, findP b (bsl [37]) = 0 := by decide +kernel
    simp [desOk, this]
  | _ :: _ :: _, h, h2 => simp at h; omega
theorem sid_bsl (l : List UInt8) (x : Nat) (hl : l.length ≤ maxLen) (hx : x ≤ l.length) (w : World) :
    Calls Tryz.prog 74 #[.string (bsl (l.drop x))] w fun e w' => e = .returned (.tuple #[.string (bsl ((l.drop x).take (min (idN (l.drop x)) (l.drop x).length))), .string (bsl (l.drop (x + min (idN (l.drop x)) (l.drop x).length)))]) ∧ Gr w w' := by
  have e1 : (bsl (l.drop x)).size = (l.drop x).length := by simp [bsl, ByteArray.size]
  have e2 : (bsl (l.drop x)).data.toList = l.drop x := by simp [bsl]
  have := sid_any (bsl (l.drop x)) w (by rw [e1, List.length_drop]; omega)
  rw [e1, e2, bsl_extract, bsl_extract] at this
  refine this.mono ?_
  rintro e w' ⟨rfl, hg⟩
  refine ⟨?_, hg⟩
  have e3 : List.take ((l.drop x).length - min (idN (l.drop x)) (l.drop x).length) (List.drop (min (idN (l.drop x)) (l.drop x).length) (l.drop x)) = l.drop (x + min (idN (l.drop x)) (l.drop x).length) := by
    rw [List.drop_drop, List.take_of_length_le (by simp only [List.length_drop]; omega)]
  rw [e3]
  simp

set_option maxRecDepth 100000 in
set_option maxHeartbeats 1000000 in
theorem rst_good (X : S7) (gl gr sz : Int) (l : List UInt8) (w : World) (hsz : 0 ≤ sz ∧ sz < 256) (hl : l.length ≤ maxLen) (hb : between 0 3 gl = true ∧ between 1 3 gr = true ∧ between 64 79 sz = true) :
    Calls Tryz.prog 32 #[.agg X.cells, .int .i64 gl, .int .i64 gr, .int .u8 sz, .string (bsl l)] w fun e w' => e = .returned (.tuple #[.agg (rstR sz gl gr X l).1.cells, .bool (rstR sz gl gr X l).2]) ∧ Gr w w' := by
  have e0 : rstR sz gl gr X l = match rstS sz X l 4 with
    | some (Z, a) => if a = l.length then ({ Z with a4 := gl, a5 := gr }, true) else (X, false)
    | none => (X, false) := by unfold rstR; rw [if_pos hb]; rcases rstS sz X l 4 with _ | ⟨Z, a⟩ <;> rfl
  have HR := Lib.hid e0
  clear e0
  unfold S7.cells
  have hb0 := hb
  simp [between] at hb
  obtain ⟨⟨b1, b2⟩, ⟨b3, b4⟩, b5, b6⟩ := hb
  unfold maxLen at hl
  have hln : (bsl l).size = l.length := by simp [bsl, ByteArray.size]
  obtain ⟨r, hr⟩ : ∃ r, r = rstR sz gl gr X l := ⟨_, rfl⟩
  rw [← hr] at HR ⊢
  have HRR := Lib.hid hr
  clear hr
  have hwr : IntKind.wrap .i64 sz = sz := IntWalk.i64_in sz (by omega)
  have hwr2 : IntKind.wrap .i64 (sz - 64) = sz - 64 := IntWalk.i64_in (sz - 64) (by omega)
  go_enter Tryz.func32, Tryz.ntmps32
  have m0 := fun w => number_any gl 0 w (by decide)
  have m1 := fun w => number_any gr 1 w (by decide)
  rw [hb0.1] at m0
  rw [hb0.2.1] at m1
  have m2 := andNot15 sz hsz.1 hsz.2
  have m3 : sz - sz % 16 = 64 := by omega
  clear hb0
  go_wp2_with (first
      | (go_at_call 73; (with_reducible refine (m0 _).mono ?_); rintro e w1 ⟨rfl, rfl⟩)
      | (go_at_call 73; (with_reducible refine (m1 _).mono ?_); rintro e w2 ⟨rfl, rfl⟩))
  obtain ⟨W, hW⟩ : ∃ W, W = ((w.alloc (.cells #[.int .i64 X.a0, .int .i64 X.a1, .int .i64 X.a2, .int .i64 X.a3, .int .i64 X.a4, .int .i64 X.a5, .int .i64 X.a6] 38)).alloc (.cells #[.int .i64 0, .int .i64 0, .int .i64 0, .int .i64 0, .int .i64 0, .int .i64 0, .int .i64 0] 38)).alloc (.cells #[.int .i64 X.a0, .int .i64 X.a1, .int .i64 X.a2, .int .i64 X.a3, .int .i64 X.a4, .int .i64 X.a5, .int .i64 X.a6] 38) := ⟨_, rfl⟩
  rw [← hW]
  obtain ⟨s0, hs0⟩ : ∃ s, s = w.heap.size := ⟨_, rfl⟩
  have k5 : W.heap[s0]? = some (.cells #[.int .i64 X.a0, .int .i64 X.a1, .int .i64 X.a2, .int .i64 X.a3, .int .i64 X.a4, .int .i64 X.a5, .int .i64 X.a6] 38 (0, 0)) := by rw [hW, hs0]; exact (((Gr.refl _).alloc _).alloc _).blk (heap_alloc_new w _)
  have k10 : W.heap[s0 + 1]? = some (.cells #[.int .i64 0, .int .i64 0, .int .i64 0, .int .i64 0, .int .i64 0, .int .i64 0, .int .i64 0] 38 (0, 0)) := by rw [hW, hs0]; have := ((Gr.refl _).alloc (.cells #[.int .i64 X.a0, .int .i64 X.a1, .int .i64 X.a2, .int .i64 X.a3, .int .i64 X.a4, .int .i64 X.a5, .int .i64 X.a6] 38)).blk (heap_alloc_new (w.alloc (.cells #[.int .i64 X.a0, .int .i64 X.a1, .int .i64 X.a2, .int .i64 X.a3, .int .i64 X.a4, .int .i64 X.a5, .int .i64 X.a6] 38)) (.cells #[.int .i64 0, .int .i64 0, .int .i64 0, .int .i64 0, .int .i64 0, .int .i64 0, .int .i64 0] 38)); simpa using this
  have k12 : W.heap[s0 + 2]? = some (.cells #[.int .i64 X.a0, .int .i64 X.a1, .int .i64 X.a2, .int .i64 X.a3, .int .i64 X.a4, .int .i64 X.a5, .int .i64 X.a6] 38 (0, 0)) := by rw [hW, hs0]; have := heap_alloc_new ((w.alloc (.cells #[.int .i64 X.a0, .int .i64 X.a1, .int .i64 X.a2, .int .i64 X.a3, .int .i64 X.a4, .int .i64 X.a5, .int .i64 X.a6] 38)).alloc (.cells #[.int .i64 0, .int .i64 0, .int .i64 0, .int .i64 0, .int .i64 0, .int .i64 0, .int .i64 0] 38)) (.cells #[.int .i64 X.a0, .int .i64 X.a1, .int .i64 X.a2, .int .i64 X.a3, .int .i64 X.a4, .int .i64 X.a5, .int .i64 X.a6] 38); simpa using this
  have hgW : Gr w W := by rw [hW]; exact (((Gr.refl w).alloc _).alloc _).alloc _
  have hsw : w.heap.size ≤ s0 := by omega
  rw [← hs0]
  clear hW hs0
  obtain ⟨b10, hb10⟩ : ∃ b, b = s0 + 1 := ⟨_, rfl⟩
  obtain ⟨b12, hb12⟩ : ∃ b, b = s0 + 1 + 1 := ⟨_, rfl⟩
  have hb12' : s0 + 2 = b12 := by omega
  rw [hb12'] at k12
  rw [← hb10] at k10
  rw [← hb12, ← hb10]
  have hg10 : w.heap.size ≤ b10 := by omega
  have hg12 : w.heap.size ≤ b12 := by omega
  have n1 : b10 ≠ b12 := by omega
  have n2 : s0 ≠ b12 := by omega
  clear hb12' hb10 hb12
  clear m0 m1 m2 m3
  go_loopw [33, 4] (fun i t w' => ∃ (k x : Nat) (Z : S7), k ≤ 4 ∧ i = .int .i64 k ∧ t = .string (bsl (l.drop x)) ∧ Hid (rstS sz X l k = some (Z, x)) ∧ w'.heap[b12]? = some (.cells #[.int .i64 Z.a0, .int .i64 Z.a1, .int .i64 Z.a2, .int .i64 Z.a3, .int .i64 Z.a4, .int .i64 Z.a5, .int .i64 Z.a6] 38 (0, 0)) ∧ Upd [b12] W w') (fun i _ _ => 4 - (intOf i).toNat)
  case atStart => exact ⟨0, 0, X, by omega, rfl, rfl, Lib.hid rfl, k12, ⟨rfl, rfl, rfl, Nat.le_refl _, fun _ _ _ => rfl⟩⟩
  case round =>
    obtain ⟨k, x, Z, hk, rfl, rfl, HK, hz, hu⟩ := hrel
    have hx := rstS_le HK.out
    have z5 : wr.heap[s0]? = _ := (hu.block s0 (blk_lt0 k5) (by simp; omega)).trans k5
    have z10 : wr.heap[b10]? = _ := (hu.block b10 (blk_lt0 k10) (by simp; omega)).trans k10
    have hgr : Gr w wr := hgW.upd1 hu (by omega)
    by_cases hk4 : k < 4
    · have hkn : (k : Int) < 4 := by omega
      have hid := sid_bsl l x hl hx
      obtain ⟨n, hn⟩ : ∃ n, n = min (idN (l.drop x)) (l.drop x).length := ⟨_, rfl⟩
      obtain ⟨id, hid0⟩ : ∃ id, id = bsl ((l.drop x).take n) := ⟨_, rfl⟩
      obtain ⟨rs, hrs⟩ : ∃ rs, rs = bsl (l.drop (x + n)) := ⟨_, rfl⟩
      obtain ⟨wd, hwd⟩ : ∃ wd, wd = wideK sz k := ⟨_, rfl⟩
      rw [← hn, ← hid0, ← hrs] at hid
      obtain ⟨V, hV⟩ : ∃ V, V = doS 1 k wd id 0 Z := ⟨_, rfl⟩
      obtain ⟨ok, hok⟩ : ∃ ok, ok = desOk wd id k := ⟨_, rfl⟩
      have hdes : ∀ w, Calls Tryz.prog 75 #[.agg #[.int .i64 Z.a0, .int .i64 Z.a1, .int .i64 Z.a2, .int .i64 Z.a3, .int .i64 Z.a4, .int .i64 Z.a5, .int .i64 Z.a6], .int .i64 k, .bool wd, .string id] w fun e w' => e = .returned (.tuple #[.agg #[.int .i64 V.a0, .int .i64 V.a1, .int .i64 V.a2, .int .i64 V.a3, .int .i64 V.a4, .int .i64 V.a5, .int .i64 V.a6], .bool ok]) ∧ Gr w w' := by
        intro w
        have := des_any Z.a0 Z.a1 Z.a2 Z.a3 Z.a4 Z.a5 Z.a6 k wd id w
        rw [hV, hok, doS_des]
        exact this
      have HN := Lib.hid hn; have HID := Lib.hid hid0; have HRS := Lib.hid hrs; have HWD := Lib.hid hwd; have HV := Lib.hid hV; have HOK := Lib.hid hok
      clear hn hid0 hrs hwd hV hok
      go_wp2_with (go_at_call 74; refine (hid _).mono ?_; rintro e WR ⟨rfl, hgR⟩)
      have hz1 := hgR.blk hz
      clear hz
      have hz := hz1
      clear hz1
      obtain ⟨q4, hq4⟩ : ∃ q4, sz / 2 ^ k = q4 := ⟨_, rfl⟩
      have hq40 : 0 ≤ q4 ∧ q4 < 256 ∧ wideK sz k = decide (q4 % 2 = 1) := by
        rw [← hq4]
        unfold wideK
        rw [decide_eq_decide]
        rcases (by omega : k = 0 ∨ k = 1 ∨ k = 2 ∨ k = 3) with rfl | rfl | rfl | rfl <;> simp <;> omega
      obtain ⟨q5, hq5⟩ : ∃ q5, q4 % 2 = q5 := ⟨_, rfl⟩
      have hq5b : bits BinOp.and IntKind.u8 q4 1 = q5 := by rw [and1u q4 hq40.1 hq40.2.1]; exact hq5
      have hwd5 : decide (q5 = 1) = wd := by rw [HWD.out, hq40.2.2, hq5]
      have hwd6 : (q5 == 1) = wd := hwd5
      clear hid hq40
      refine wp_region_facts5 (usF WR 38 Z k sz q4 q5 wd id V ok) noD (Gr WR) (by kernel_rfl) (by kernel_rfl) (by kernel_rfl) ?_ ((Gr.refl _).drew) ?_ ?_
      · intro j o ho ys zs w' hj he hF
        match j, ho, hj, hF with
        | 0, ho, hj, hF | 1, ho, hj, hF | 2, ho, hj, hF | 3, ho, hj, hF | 4, ho, hj, hF | 5, ho, hj, hF | 6, ho, hj, hF | 7, ho, hj, hF | 8, ho, hj, hF | 9, ho, hj, hF | 10, ho, hj, hF | 11, ho, hj, hF | 12, ho, hj, hF | 14, ho, hj, hF => simp only [usF] at hF ⊢; rw [← hj]; exact hF
        | 13, ho, hj, hF => 
          simp at ho; subst ho
          have := he ⟨12, .data⟩ (by simp) rfl
          simp only [usF] at hF ⊢; rw [← this]; exact hF
        | _ + 15, ho, _, _ => exact trivial
      · refine Steps2.cons1 1 rfl rfl ?_ (Steps2.cons1 2 rfl rfl ?_ (Steps2.cons1 3 rfl rfl ?_ (Steps2.cons1 4 rfl rfl ?_ (Steps2.cons1 5 rfl rfl ?_ (Steps2.cons1 6 rfl rfl ?_ (Steps2.cons1 7 rfl rfl ?_ (Steps2.cons1 8 rfl rfl ?_ (Steps2.cons1 9 rfl rfl ?_ (Steps2.cons1 10 rfl rfl ?_ (Steps2.cons1 11 rfl rfl ?_ (Steps2.cons1 12 rfl rfl ?_ (Steps2.cons1 13 rfl rfl ?_ (Steps2.cons1 14 rfl rfl ?_ (Steps2.cons1 15 rfl rfl ?_ (Steps2.nil)))))))))))))))
        · (intro L ys w' hB hD hP hn; simp only [LAll, Region.binds, forall_const, and_true, true_and] at hP)
          have q := cells7 (hB.blk hz)
          intro K hK
          simp only [fillA]
          go_simp
          have h2 := hK (.agg #[.int .i64 Z.a0, .int .i64 Z.a1, .int .i64 Z.a2, .int .i64 Z.a3, .int .i64 Z.a4, .int .i64 Z.a5, .int .i64 Z.a6]) w' hB (setY_at ys 0 _) (fun j _ h => h) (fun j _ => ⟨fun _ => trivial, fun _ => trivial⟩)
          simp [fillA, Act.put] at h2
          exact h2
        · (intro L ys w' hB hD hP hn; simp only [LAll, Region.binds, forall_const, and_true, true_and] at hP)
          intro K hK
          simp only [fillA]
          go_simp
          have h2 := hK (.int .i64 (k : Int)) w' hB (setY_at ys 1 _) (fun j _ h => h) (fun j _ => ⟨fun _ => trivial, fun _ => trivial⟩)
          simp [fillA, Act.put] at h2
          exact h2
        · (intro L ys w' hB hD hP hn; simp only [LAll, Region.binds, forall_const, and_true, true_and] at hP)
          intro K hK
          simp only [fillA]
          go_simp
          have h2 := hK (.int .u8 sz) w' hB (setY_at ys 2 _) (fun j _ h => h) (fun j _ => ⟨fun _ => trivial, fun _ => trivial⟩)
          simp [fillA, Act.put] at h2
          exact h2
        · (intro L ys w' hB hD hP hn; simp only [LAll, Region.binds, forall_const, and_true, true_and] at hP)
          intro K hK
          simp only [fillA]
          go_simp
          have h2 := hK (.int .i64 (k : Int)) w' hB (setY_at ys 3 _) (fun j _ h => h) (fun j _ => ⟨fun _ => trivial, fun _ => trivial⟩)
          simp [fillA, Act.put] at h2
          exact h2
        · (intro L ys w' hB hD hP hn; simp only [LAll, Region.binds, forall_const, and_true, true_and] at hP)
          have f2 : ys 2 = _ := hD.fact 2 (by first | exact hP | exact hP.1 | exact hP.2.1 | exact hP.2.2.1 | exact hP.2.2.2.1 | exact hP.2 | exact hP.2.2 | exact hP.2.2.2)
          have f3 : ys 3 = _ := hD.fact 3 (by first | exact hP | exact hP.1 | exact hP.2.1 | exact hP.2.2.1 | exact hP.2.2.2.1 | exact hP.2 | exact hP.2.2 | exact hP.2.2.2)
          intro K hK
          simp only [fillA]
          go_simp
          have h2 := hK (.int .u8 q4) w' hB (setY_at ys 4 _) (fun j _ h => h) (fun j _ => ⟨fun _ => trivial, fun _ => trivial⟩)
          simp [fillA, Act.put, f2, f3] at h2
          exact h2
        · (intro L ys w' hB hD hP hn; simp only [LAll, Region.binds, forall_const, and_true, true_and] at hP)
          have f4 : ys 4 = _ := hD.fact 4 (by first | exact hP | exact hP.1 | exact hP.2.1 | exact hP.2.2.1 | exact hP.2.2.2.1 | exact hP.2 | exact hP.2.2 | exact hP.2.2.2)
          intro K hK
          simp only [fillA]
          go_simp
          have h2 := hK (.int .u8 q5) w' hB (setY_at ys 5 _) (fun j _ h => h) (fun j _ => ⟨fun _ => trivial, fun _ => trivial⟩)
          simp [fillA, Act.put, f4] at h2
          exact h2
        · (intro L ys w' hB hD hP hn; simp only [LAll, Region.binds, forall_const, and_true, true_and] at hP)
          have f5 : ys 5 = _ := hD.fact 5 (by first | exact hP | exact hP.1 | exact hP.2.1 | exact hP.2.2.1 | exact hP.2.2.2.1 | exact hP.2 | exact hP.2.2 | exact hP.2.2.2)
          intro K hK
          simp only [fillA]
          go_simp
          have h2 := hK (.bool wd) w' hB (setY_at ys 6 _) (fun j _ h => h) (fun j _ => ⟨fun _ => trivial, fun _ => trivial⟩)
          simp [fillA, Act.put, f5] at h2
          exact h2
        · (intro L ys w' hB hD hP hn; simp only [LAll, Region.binds, forall_const, and_true, true_and] at hP)
          intro K hK
          simp only [fillA]
          go_simp
          have h2 := hK (.string id) w' hB (setY_at ys 7 _) (fun j _ h => h) (fun j _ => ⟨fun _ => trivial, fun _ => trivial⟩)
          simp [fillA, Act.put] at h2
          exact h2
        · (intro L ys w' hB hD hP hn; simp only [LAll, Region.binds, forall_const, and_true, true_and] at hP)
          have f0 : ys 0 = _ := hD.fact 0 (by first | exact hP | exact hP.1 | exact hP.2.1 | exact hP.2.2.1 | exact hP.2.2.2.1 | exact hP.2 | exact hP.2.2 | exact hP.2.2.2)
          have f1 : ys 1 = _ := hD.fact 1 (by first | exact hP | exact hP.1 | exact hP.2.1 | exact hP.2.2.1 | exact hP.2.2.2.1 | exact hP.2 | exact hP.2.2 | exact hP.2.2.2)
          have f6 : ys 6 = _ := hD.fact 6 (by first | exact hP | exact hP.1 | exact hP.2.1 | exact hP.2.2.1 | exact hP.2.2.2.1 | exact hP.2 | exact hP.2.2 | exact hP.2.2.2)
          have f7 : ys 7 = _ := hD.fact 7 (by first | exact hP | exact hP.1 | exact hP.2.1 | exact hP.2.2.1 | exact hP.2.2.2.1 | exact hP.2 | exact hP.2.2 | exact hP.2.2.2)
          intro K hK
          simp only [fillA]
          go_simp
          refine (hdes _).mono ?_
          rintro e w4 ⟨rfl, hg⟩
          have h2 := hK (.tuple #[.agg #[.int .i64 V.a0, .int .i64 V.a1, .int .i64 V.a2, .int .i64 V.a3, .int .i64 V.a4, .int .i64 V.a5, .int .i64 V.a6], .bool ok]) w4 (hB.trans hg) (setY_at ys 8 _) (fun j _ h => h.gr hg) (fun j _ => ⟨fun _ => trivial, fun _ => trivial⟩)
          simp [fillA, Act.put, f0, f1, f6, f7] at h2
          exact h2
        · (intro L ys w' hB hD hP hn; simp only [LAll, Region.binds, forall_const, and_true, true_and] at hP)
          have f8 : ys 8 = _ := hD.fact 8 (by first | exact hP | exact hP.1 | exact hP.2.1 | exact hP.2.2.1 | exact hP.2.2.2.1 | exact hP.2 | exact hP.2.2 | exact hP.2.2.2)
          intro K hK
          simp only [fillA]
          go_simp
          have h2 := hK (.tuple #[.agg #[.int .i64 V.a0, .int .i64 V.a1, .int .i64 V.a2, .int .i64 V.a3, .int .i64 V.a4, .int .i64 V.a5, .int .i64 V.a6], .bool ok]) w' hB (setY_at ys 9 _) (fun j _ h => h) (fun j _ => ⟨fun _ => trivial, fun _ => trivial⟩)
          simp [fillA, Act.put, f8] at h2
          exact h2
        · (intro L ys w' hB hD hP hn; simp only [LAll, Region.binds, forall_const, and_true, true_and] at hP)
          have f9 : ys 9 = _ := hD.fact 9 (by first | exact hP | exact hP.1 | exact hP.2.1 | exact hP.2.2.1 | exact hP.2.2.2.1 | exact hP.2 | exact hP.2.2 | exact hP.2.2.2)
          intro K hK
          simp only [fillA]
          go_simp
          have h2 := hK (.agg #[.int .i64 V.a0, .int .i64 V.a1, .int .i64 V.a2, .int .i64 V.a3, .int .i64 V.a4, .int .i64 V.a5, .int .i64 V.a6]) w' hB (setY_at ys 10 _) (fun j _ h => h) (fun j _ => ⟨fun _ => trivial, fun _ => trivial⟩)
          simp [fillA, Act.put, f9] at h2
          exact h2
        · (intro L ys w' hB hD hP hn; simp only [LAll, Region.binds, forall_const, and_true, true_and] at hP)
          have f9 : ys 9 = _ := hD.fact 9 (by first | exact hP | exact hP.1 | exact hP.2.1 | exact hP.2.2.1 | exact hP.2.2.2.1 | exact hP.2 | exact hP.2.2 | exact hP.2.2.2)
          intro K hK
          simp only [fillA]
          go_simp
          have h2 := hK (.bool ok) w' hB (setY_at ys 11 _) (fun j _ h => h) (fun j _ => ⟨fun _ => trivial, fun _ => trivial⟩)
          simp [fillA, Act.put, f9] at h2
          exact h2
        · (intro L ys w' hB hD hP hn; simp only [LAll, Region.binds, forall_const, and_true, true_and] at hP)
          intro K hK
          simp only [fillA]
          go_simp
          have h2 := hK (.pointer (some ⟨w'.heap.size, 0, none⟩)) (w'.alloc (.cells #[.int .i64 0, .int .i64 0, .int .i64 0, .int .i64 0, .int .i64 0, .int .i64 0, .int .i64 0] 38)) (hB.alloc _) ⟨_, _, setY_at ys 12 _, hB.size, rfl, heap_alloc_new _ _⟩ (fun j _ h => h.gr ((Gr.refl _).alloc _)) (fun j _ => ⟨fun _ => trivial, fun _ => trivial⟩)
          simp [fillA, Act.put] at h2
          exact h2
        · (intro L ys w' hB hD hP hn; simp only [LAll, Region.binds, forall_const, and_true, true_and] at hP)
          have f10 : ys 10 = _ := hD.fact 10 (by first | exact hP | exact hP.1 | exact hP.2.1 | exact hP.2.2.1 | exact hP.2.2.2.1 | exact hP.2 | exact hP.2.2 | exact hP.2.2.2)
          obtain ⟨g, cs, hq, hge, hcs, hblk⟩ := hD.fact 12 (by first | exact hP | exact hP.1 | exact hP.2.1 | exact hP.2.2.1 | exact hP.2.2.2.1 | exact hP.2 | exact hP.2.2 | exact hP.2.2.2)
          have hs := setRow_heap w' g cs #[.int .i64 V.a0, .int .i64 V.a1, .int .i64 V.a2, .int .i64 V.a3, .int .i64 V.a4, .int .i64 V.a5, .int .i64 V.a6] 38 (0, 0) hblk
          have ho := fun k (hk : k ≠ g) => setRow_other w' g k #[.int .i64 V.a0, .int .i64 V.a1, .int .i64 V.a2, .int .i64 V.a3, .int .i64 V.a4, .int .i64 V.a5, .int .i64 V.a6] (by omega)
          intro K hK
          with_reducible refine wp_store_row 38 (.tmp 16) (.tmp 51) ?ho8 g #[.int .i64 V.a0, .int .i64 V.a1, .int .i64 V.a2, .int .i64 V.a3, .int .i64 V.a4, .int .i64 V.a5, .int .i64 V.a6] ?hx8 ?hy8 38 cs hblk ?hi8 ?hc8 ?h18 ?hh8
          case hc8 => exact hcs
          case ho8 => rfl
          case hx8 => simp [Act.eval, fillA, Act.put, hq]
          case hy8 => simp [Act.eval, fillA, Act.put, f10]
          case hi8 => kernel_rfl
          case h18 => simp [Value.oneCell']
          case hh8 => exact hK undef _ (setRow_gr hB hge) (usF.at13 undef hq hge hs) (fun j hl h => h.set rfl hs ho (fun e => hn (e ▸ hl))) (fun j _ => ⟨fun _ => trivial, fun _ => trivial⟩)
        · (intro L ys w' hB hD hP hn; simp only [LAll, Region.binds, forall_const, and_true, true_and] at hP)
          have f11 : ys 11 = _ := hD.fact 11 (by first | exact hP | exact hP.1 | exact hP.2.1 | exact hP.2.2.1 | exact hP.2.2.2.1 | exact hP.2 | exact hP.2.2 | exact hP.2.2.2)
          intro K hK
          simp only [fillA]
          go_simp
          have h2 := hK (.bool ok) w' hB (setY_at ys 14 _) (fun j _ h => h) (fun j _ => ⟨fun _ => trivial, fun _ => trivial⟩)
          simp [fillA, Act.put, f11] at h2
          exact h2
      · intro ys w' hB hF _
        have f0 : ys 0 = _ := hF 0 (by decide)
        have f1 : ys 1 = _ := hF 1 (by decide)
        have f2 : ys 2 = _ := hF 2 (by decide)
        have f3 : ys 3 = _ := hF 3 (by decide)
        have f4 : ys 4 = _ := hF 4 (by decide)
        have f5 : ys 5 = _ := hF 5 (by decide)
        have f6 : ys 6 = _ := hF 6 (by decide)
        have f7 : ys 7 = _ := hF 7 (by decide)
        have f8 : ys 8 = _ := hF 8 (by decide)
        have f9 : ys 9 = _ := hF 9 (by decide)
        have f10 : ys 10 = _ := hF 10 (by decide)
        have f11 : ys 11 = _ := hF 11 (by decide)
        have f14 : ys 14 = _ := hF 14 (by decide)
        obtain ⟨p, f12, hpw, hpb⟩ := hF 13 (by decide)
        simp only [fillA, f0, f1, f2, f3, f4, f5, f6, f7, f8, f9, f10, f11, f12, f14]
        clear hF f0 f1 f2 f3 f4 f5 f6 f7 f8 f9 f10 f11 f12 f14 hdes hwd5 hwd6 hq4 hq5 hq5b
        have hgB := hgR.trans hB
        have z5' := hgB.blk z5
        have z10' := hgB.blk z10
        have hz' := hB.blk hz
        have hgr' := hgr.trans hgB
        have hu' := hu.gr1 hgB
        have hkw : IntKind.wrap .i64 ((k : Int) + 1) = ((k + 1 : Nat) : Int) := by rw [IntWalk.i64_in _ (by omega)]; omega
        cases ok
        · have hnone : rstS sz X l (k + 1) = none := by
            simp only [rstS, HK.out, Option.bind_some]
            by_cases hs : l.length < x + idN (l.drop x)
            · rw [if_pos hs]
            · have hni : idN (l.drop x) = n := by rw [HN.out, List.length_drop]; omega
              rw [if_neg hs, hni, ← HWD.out, ← HID.out, ← HOK.out]; rfl
          have hr0 : r = (X, false) := by rw [HR.out, rstS_none hnone 4 (by omega)]
          subst hr0
          clear HRR HR z5 z10 hz
          have q5 := cells7 z5'
          go_wp2_with (refine wpList_store_seven rfl 38 _ _ rfl b10 #[.int .i64 X.a0, .int .i64 X.a1, .int .i64 X.a2, .int .i64 X.a3, .int .i64 X.a4, .int .i64 X.a5, .int .i64 X.a6] rfl rfl 38 _ z10' (by kernel_rfl) rfl (by kernel_rfl) ?_; intro w1 hh hu1)
          have q := cells7 hh
          exact bodyPost_ret (v := .tuple #[.agg #[.int .i64 X.a0, .int .i64 X.a1, .int .i64 X.a2, .int .i64 X.a3, .int .i64 X.a4, .int .i64 X.a5, .int .i64 X.a6], .bool false]) (by simp [results, Tryz.results32, go_sem, *]) rfl ⟨rfl, hgr'.upd1 hu1 hg10⟩
        · have hsome : rstS sz X l (k + 1) = some (V, x + n) := by
            have hs : ¬ l.length < x + idN (l.drop x) := by
              intro hs
              have := short_bad (l.drop x) wd k (by rw [List.length_drop]; omega)
              rw [← HN.out, ← HID.out, ← HOK.out] at this
              cases this
            have hni : idN (l.drop x) = n := by rw [HN.out, List.length_drop]; omega
            simp only [rstS, HK.out, Option.bind_some]
            rw [if_neg hs, hni, ← HWD.out, ← HID.out, ← HOK.out, if_pos rfl, ← HV.out]
          have HS := Lib.hid hsome
          clear hsome z5 z10 hz
          have qp := cells7 hpb
          go_wp2_with (refine wpList_store_seven rfl 38 _ _ rfl b12 #[.int .i64 V.a0, .int .i64 V.a1, .int .i64 V.a2, .int .i64 V.a3, .int .i64 V.a4, .int .i64 V.a5, .int .i64 V.a6] rfl rfl 38 _ hz' (by kernel_rfl) rfl (by kernel_rfl) ?_; intro w1 hh hu1)
          go_roundw
          case rel => exact ⟨k + 1, x + n, V, by omega, by go_num, by rw [HRS.out], HS, hh, hu'.transP hu1⟩
          case measure => simp [intOf]; omega
    · have hkn : ¬ (k : Int) < 4 := by omega
      obtain rfl : k = 4 := by omega
      have hsl : (bsl (l.drop x)).size = l.length - x := by simp [bsl, ByteArray.size]
      obtain ⟨t, ht⟩ : ∃ t, t = bsl (l.drop x) := ⟨_, rfl⟩
      by_cases hxl : x < l.length
      · have hr0 : r = (X, false) := by rw [HR.out, HK.out]; simp; omega
        subst hr0
        clear HRR HR
        have q5 := cells7 z5
        rw [← ht] at hsl ⊢
        have hte : t.toList.isEmpty = false := by rw [ByteArray.toList_eq, ht]; simp [bsl]; omega
        clear ht
        go_wp2_with (refine wpList_store_seven rfl 38 _ _ rfl b10 #[.int .i64 X.a0, .int .i64 X.a1, .int .i64 X.a2, .int .i64 X.a3, .int .i64 X.a4, .int .i64 X.a5, .int .i64 X.a6] rfl rfl 38 _ z10 (by kernel_rfl) rfl (by kernel_rfl) ?_; intro w1 hh hu1)
        have q := cells7 hh
        exact bodyPost_ret (v := .tuple #[.agg #[.int .i64 X.a0, .int .i64 X.a1, .int .i64 X.a2, .int .i64 X.a3, .int .i64 X.a4, .int .i64 X.a5, .int .i64 X.a6], .bool false]) (by simp [results, Tryz.results32, go_sem, *]) rfl ⟨rfl, hgr.upd1 hu1 hg10⟩
      · have hr0 : r = ({ Z with a4 := gl, a5 := gr }, true) := by rw [HR.out, HK.out]; simp; omega
        subst hr0
        clear HRR HR
        rw [← ht] at hsl ⊢
        have hte : t.toList.isEmpty = true := by rw [ByteArray.toList_eq, ht]; simp [bsl]; omega
        clear ht
        have q12 := cells7 hz
        have c1 : between 0 3 gl = true := by simp [between]; omega
        have c2 : between 1 3 gr = true := by simp [between]; omega
        have hL := fun w => left_any Z.a0 Z.a1 Z.a2 Z.a3 Z.a4 Z.a5 Z.a6 gl w
        have hRt := fun w => right_any Z.a0 Z.a1 Z.a2 Z.a3 gl Z.a5 Z.a6 gr w
        rw [c1, selI_true] at hL
        rw [c2, selI_true] at hRt
        clear c1 c2
        go_wp2_with (first
          | (go_at_call 76; refine (hL _).mono ?_; rintro e w4 ⟨rfl, hg4⟩)
          | (go_at_call 77; refine (hRt _).mono ?_; rintro e w5 ⟨rfl, hg5⟩)
          | (refine wpList_store_seven rfl 38 _ _ rfl b10 #[.int .i64 Z.a0, .int .i64 Z.a1, .int .i64 Z.a2, .int .i64 Z.a3, .int .i64 gl, .int .i64 gr, .int .i64 Z.a6] rfl rfl 38 _ (hg5.blk (hg4.blk z10)) (by kernel_rfl) rfl (by kernel_rfl) ?_; intro w1 hh hu1))
        have q := cells7 hh
        exact bodyPost_ret (v := .tuple #[.agg #[.int .i64 Z.a0, .int .i64 Z.a1, .int .i64 Z.a2, .int .i64 Z.a3, .int .i64 gl, .int .i64 gr, .int .i64 Z.a6], .bool true]) (by simp [results, Tryz.results32, go_sem, *]) rfl ⟨rfl, ((hgr.trans hg4).trans hg5).upd1 hu1 hg10⟩
end Go.Proofs.YtfkecgkfcldffaaGreatDoor
