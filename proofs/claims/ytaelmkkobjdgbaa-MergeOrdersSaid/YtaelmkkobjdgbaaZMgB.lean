/-
  Sources in a heap: data, and how they lie in memory.
  The queue's methods: Less, Len (gen_mgb.py).
-/
import Derived.Test.YtaelmkkobjdgbaaZHpB
import Derived.Test.YtaelmkkobjdgbaaZAp0
namespace Go.Proofs.Ytaelmkkobjdgbaa
set_option linter.unusedSimpArgs false
set_option linter.unusedVariables false
open Go.RowKit
set_option linter.unusedVariables false

/-- An item: what its cells hold, and the bytes of its data. -/
structure Itm where
  at_ : Int
  kd : Int
  da : Option Addr
  dc : Nat
  k0 : Int
  k1 : Int
  k2 : Bool
  k3 : Bool
  rw_ : Int
  cl : Int
  bs : List Int
def itm0 : Itm := ⟨0, 0, none, 0, 0, 0, false, false, 0, 0, []⟩
def itC (x : Itm) : List Value := [.int .i64 x.at_, .int .i64 x.kd, .slice x.da x.bs.length x.dc, .int .i64 x.k0, .int .u8 x.k1, .bool x.k2, .bool x.k3, .int .i64 x.rw_, .int .i64 x.cl]
/-- What is left of a source: where it lies, its items, and its number. -/
structure QE where
  b : Nat
  off : Nat
  c : Nat
  xs : List Itm
  n : Nat
def qe0 : QE := ⟨0, 0, 0, [], 0⟩
instance : Inhabited QE := ⟨qe0⟩
def qeC (e : QE) : List Value := [.slice (some ⟨e.b, e.off, none⟩) e.xs.length e.c, .int .i64 ((e.n : Nat) : Int)]
def qcells (l : List QE) : List Value := flC qeC l
theorem qeC_len (p : QE) : (qeC p).length = 2 := rfl
theorem qcells_len (l : List QE) : (qcells l).length = l.length * 2 := flC_len qeC_len l
theorem qcells_app (l m : List QE) : qcells l ++ qcells m = qcells (l ++ m) := flC_app l m
theorem qcells_get {l : List QE} {i j : Nat} {v : Value} (h : i < l.length) (hj : (qeC (l.getD i qe0))[j]? = some v) : (qcells l)[i * 2 + j]? = some v := by
  unfold qcells
  exact flC_get (f := qeC) (d := qe0) qeC_len h hj
theorem qcells_part {l : List QE} {i j m : Nat} {cs : List Value} (h : i < l.length) (hj : ((qeC (l.getD i qe0)).drop j).take m = cs) (hl : cs.length = m) : ((qcells l).drop (i * 2 + j)).take m = cs := by
  unfold qcells
  exact flC_part (f := qeC) (d := qe0) qeC_len h hj hl
/-- The kind of a block's cells, and what of it is frozen. -/
def blkT (w : World) (g : Nat) : TypeId := match w.heap[g]? with
  | some (.cells _ T _) => T
  | _ => 0
def blkF (w : World) (g : Nat) : Nat × Nat := match w.heap[g]? with
  | some (.cells _ _ fr) => fr
  | _ => (0, 0)
/-- An item's data lies there. -/
def DataAt (w : World) (a : Option Addr) (c : Nat) (bs : List Int) : Prop := (a = none ∧ bs = [] ∧ c = 0) ∨ (∃ x, a = some x ∧ bs = []) ∨ ∃ b off C T fr, a = some ⟨b, off, none⟩ ∧ w.heap[b]? = some (.cells C T fr) ∧ (C.toList.drop off).take bs.length = bcells bs
theorem DataAt.gr {w w' : World} {a : Option Addr} {c : Nat} {bs : List Int} (h : DataAt w a c bs) (hg : Gr w w') : DataAt w' a c bs := by
  rcases h with h | h | ⟨b, off, C, T, fr, h1, h2, h3⟩
  · exact .inl h
  · exact .inr (.inl h)
  · exact .inr (.inr ⟨b, off, C, T, fr, h1, hg.blk h2, h3⟩)
theorem srcD {P : Program} {w : World} {t el : TypeId} (ht : P.underlying t = some (.slice el)) {a : Option Addr} {c : Nat} {bs : List Int} (h : DataAt w a c bs) : Src P 1 t (.slice a bs.length c) bs.length (bcells bs) w := by
  have h1 : ∀ v ∈ bcells bs, v.oneCell' = true := fun v hv => by
    obtain ⟨x, _, rfl⟩ := List.mem_map.1 hv
    rfl
  rcases h with ⟨rfl, rfl, rfl⟩ | ⟨x, rfl, rfl⟩ | ⟨b, off, C, T, fr, rfl, hb, hcut⟩
  · exact Src.ofNil w ht 0
  · exact Src.ofSlice w ht x 0 c [] rfl (fun j v hj => by simp at hj) (by simp)
  · exact srcH ht hb (by rw [Nat.mul_one]; exact hcut) (by simp [bcells]) h1
/-- The items lie there. -/
def ItAt (w : World) (e : QE) : Prop := e.xs.length ≤ e.c ∧ (∀ i, i < e.xs.length → DataAt w (e.xs.getD i itm0).da (e.xs.getD i itm0).dc (e.xs.getD i itm0).bs ∧ (e.xs.getD i itm0).bs.length ≤ 1000) ∧ ∃ C T fr, w.heap[e.b]? = some (.cells C T fr) ∧ ∀ i, i < e.xs.length → (C.toList.drop (e.off + i * 9)).take 9 = itC (e.xs.getD i itm0)
theorem ItAt.blk {w : World} {e : QE} (h : ItAt w e) : w.heap[e.b]? = some (.cells (blkC w e.b) (blkT w e.b) (blkF w e.b)) := by
  obtain ⟨_, _, C, T, fr, hb, _⟩ := h
  unfold blkC blkT blkF
  rw [hb]
theorem ItAt.many {w : World} {e : QE} (h : ItAt w e) (h0 : 0 < e.xs.length) {j m : Nat} {cs : List Value} (hj : ((itC (e.xs.getD 0 itm0)).drop j).take m = cs) (hm : j + m ≤ 9) : ((blkC w e.b).toList.drop (e.off + j)).take m = cs := by
  obtain ⟨_, _, C, T, fr, hb, hi⟩ := h
  rw [blkC_eq hb]
  have := hi 0 h0
  rw [← hj, ← this, List.drop_take, List.take_take, List.drop_drop, Nat.zero_mul, Nat.add_zero]
  congr 1
  omega
theorem ItAt.one {w : World} {e : QE} (h : ItAt w e) (h0 : 0 < e.xs.length) {j : Nat} {v : Value} (hj : (itC (e.xs.getD 0 itm0))[j]? = some v) : (blkC w e.b)[e.off + j]? = some v := by
  obtain ⟨_, _, C, T, fr, hb, hi⟩ := h
  rw [blkC_eq hb]
  have h1 := hi 0 h0
  have hlt : j < 9 := (List.getElem?_eq_some_iff.1 hj).1
  rw [← h1, List.getElem?_take, if_pos hlt, List.getElem?_drop, Nat.zero_mul, Nat.add_zero, Array.getElem?_toList] at hj
  exact hj
theorem ItAt.gr {w w' : World} {e : QE} (h : ItAt w e) (hg : Gr w w') : ItAt w' e := by
  obtain ⟨hc, hd, C, T, fr, hb, hi⟩ := h
  exact ⟨hc, fun i hi => ⟨(hd i hi).1.gr hg, (hd i hi).2⟩, C, T, fr, hg.blk hb, hi⟩
/-- Sources have something left, and their items lie there. -/
def QI (S : List QE) (w : World) : Prop := ∀ e ∈ S, 0 < e.xs.length ∧ ItAt w e
theorem swapL_mem {S q : List QE} {n i j : Nat} (h : ∀ z, z < n → q.getD z qe0 ∈ S) (hi : i < n) (hj : j < n) (hn : n ≤ q.length) : ∀ z, z < n → (swapL q i j).getD z qe0 ∈ S := fun z hz => by
  by_cases h1 : z = i
  · subst h1
    rw [show (swapL q z j).getD z qe0 = q.getD j qe0 from swapL_i (by omega) (by omega)]
    exact h j hj
  · by_cases h2 : z = j
    · subst h2
      rw [show (swapL q i z).getD z qe0 = q.getD i qe0 from swapL_j (by omega)]
      exact h i hi
    · rw [show (swapL q i j).getD z qe0 = q.getD z qe0 from swapL_ne h1 h2]
      exact h z hz
theorem mem_at {q : List QE} : ∀ z, z < q.length → q.getD z qe0 ∈ q := fun z hz => by
  rw [List.getD_eq_getElem?_getD, List.getElem?_eq_getElem hz]
  exact List.getElem_mem hz
def QE.at_ (e : QE) : Int := (e.xs.getD 0 itm0).at_
/-- Which comes first. -/
def keyLt (e f : QE) : Bool := decide (e.at_ < f.at_) || ((e.at_ == f.at_) && decide (((e.n : Nat) : Int) < ((f.n : Nat) : Int)))
theorem keyLt_iff (e f : QE) : keyLt e f = true ↔ e.at_ < f.at_ ∨ (e.at_ = f.at_ ∧ e.n < f.n) := by
  unfold keyLt
  simp
theorem keyLt_false (e f : QE) : keyLt e f = false ↔ ¬ (e.at_ < f.at_ ∨ (e.at_ = f.at_ ∧ e.n < f.n)) := by
  rw [← keyLt_iff]; simp
theorem keyOrd : WeakOrd keyLt where
  asym a b h := by rw [keyLt_iff] at h; rw [keyLt_false]; omega
  ntrans a b c h1 h2 := by rw [keyLt_false] at h1 h2 ⊢; omega
theorem key_irr (a : QE) : keyLt a a = false := by rw [keyLt_false]; omega
/-- A source without its first item. -/
def tailE (e : QE) : QE := ⟨e.b, if e.c = 1 then e.off else e.off + 9, e.c - 1, e.xs.tail, e.n⟩
theorem tail_getD (xs : List Itm) (i : Nat) : xs.tail.getD i itm0 = xs.getD (i + 1) itm0 := by
  cases xs <;> simp
theorem tail_at {w : World} {e : QE} (h : ItAt w e) (h1 : 0 < e.xs.tail.length) : ItAt w (tailE e) := by
  obtain ⟨hc, hd, C, T, fr, hb, hi⟩ := h
  have hl : e.xs.tail.length = e.xs.length - 1 := List.length_tail
  have hc1 : ¬ e.c = 1 := by omega
  refine ⟨by show e.xs.tail.length ≤ e.c - 1; omega, fun i h => ?_, C, T, fr, hb, fun i h => ?_⟩
  · have h : i < e.xs.tail.length := h
    show DataAt w (e.xs.tail.getD i itm0).da (e.xs.tail.getD i itm0).dc (e.xs.tail.getD i itm0).bs ∧ (e.xs.tail.getD i itm0).bs.length ≤ 1000
    rw [tail_getD]
    exact hd (i + 1) (by omega)
  · have h : i < e.xs.tail.length := h
    show (C.toList.drop ((if e.c = 1 then e.off else e.off + 9) + i * 9)).take 9 = itC (e.xs.tail.getD i itm0)
    rw [if_neg hc1, tail_getD, ← hi (i + 1) (by omega)]
    congr 2
    omega
theorem run_from1 {P : Program} {w : World} {o : Oper} {ev : Nat → Value} {t : TypeId} {x y : Operand} {e : QE} (ho : o.op = .slice t x (some y) none none) (hx : evE ev x = .slice (some ⟨e.b, e.off, none⟩) e.xs.length e.c) (hy : evE ev y = .int .i64 1)
    (ht : P.underlying t = some (.slice (P.elem t))) (hs : (P.info? (P.elem t)).map (·.size) = some 9) (hi : 1 ≤ e.xs.length) (hc : e.xs.length ≤ e.c) :
    (execOp (evE ev) o).run P w = .ok (.value (.slice (some ⟨(tailE e).b, (tailE e).off, none⟩) (tailE e).xs.length (tailE e).c)) w := by
  have e1 : sliced (some ⟨e.b, e.off, none⟩) 1 e.xs.length e.c 9 = .slice (some ⟨(tailE e).b, (tailE e).off, none⟩) (tailE e).xs.length (tailE e).c := by
    have hl : (tailE e).xs.length = e.xs.length - 1 := List.length_tail
    rw [hl]
    unfold sliced tailE
    by_cases h : e.c = 1
    · simp [h]
    · simp [h, Addr.add]
  unfold execOp
  simp only [ho, hx, hy, Option.map_some, Option.map_none, run_sliceAt_slice w t _ _ _ _ ht, Sem.run_bind, run_slice_l w t _ e.xs.length e.c ht .i64 1 (by omega) (by omega), show Int.toNat 1 = 1 from rfl, sizeof_of hs, Result.andThen_ok, e1, Sem.run_pure]
end Go.Proofs.Ytaelmkkobjdgbaa

namespace Go.Proofs.Ytaelmkkobjdgbaa
set_option linter.unusedSimpArgs false
set_option linter.unusedVariables false
open Go.RowKit
set_option linter.unusedVariables false

theorem beq_false_ne {α : Type} [BEq α] [LawfulBEq α] {a b : α} (h : (a == b) = false) : a ≠ b := fun e => by rw [e] at h; simp at h
set_option maxRecDepth 100000 in
set_option maxHeartbeats 4000000 in
theorem less_tr (a : Option Addr) (c : Nat) (q S : List QE) (i k : Nat) (w : World) (hi : i < q.length) (hk : k < q.length) (hSi : q.getD i qe0 ∈ S) (hSk : q.getD k qe0 ∈ S) : TrM (QI S) Try.prog 41 #[.slice a ((q).length) c, .int .i64 ((i : Nat) : Int), .int .i64 ((k : Nat) : Int)] w [rowH 55 2 a (q).length c (qcells q)] (fun v Q => v = .bool (keyLt (q.getD i qe0) (q.getD k qe0)) ∧ Q = [rowH 55 2 a (q).length c (qcells q)]) := by
  refine TrM.of fun U hs0 hMU => ?_
  have hp_ : ∀ z, q.getD z qe0 ∈ S → 0 < (q.getD z qe0).xs.length := fun z hz => ((hMU _ (Upd.refl _ _)) _ hz).1
  have hpi_ := hp_ _ hSi
  have hpk_ := hp_ _ hSk
  refine calls_sx (n := 46) (args := [.slice a ((q).length) c, .int .i64 ((i : Nat) : Int), .int .i64 ((k : Nat) : Int)]) Try.func41 rfl rfl rfl ?_
  refine CW.seq ?_
  refine CW.region ?_
  refine SL.v (.bool false) ?_
  refine SL.nil ?_
  refine CW.seq ?_
  obtain ⟨g_1, ha_2⟩ := hs0.row_some (i := 0) rfl (show 0 < (q).length by omega)
  have HGR : GrL [fun v _ => v = .slice a ((q).length) c, fun v _ => v = .int .i64 ((i : Nat) : Int), fun v _ => v = .pointer (some ⟨g_1, i * 2, none⟩), fun v _ => v = .pointer (some ⟨g_1, i * 2, none⟩), fun v _ => v = .slice (some ⟨(q.getD i qe0).b, (q.getD i qe0).off, none⟩) ((q.getD i qe0).xs.length) ((q.getD i qe0).c), fun v _ => v = .pointer (some ⟨(q.getD i qe0).b, (q.getD i qe0).off, none⟩), fun v _ => v = .pointer (some ⟨(q.getD i qe0).b, (q.getD i qe0).off, none⟩), fun v _ => v = .int .i64 (((q.getD i qe0).xs.getD 0 itm0).at_), fun v _ => v = .slice a ((q).length) c, fun v _ => v = .int .i64 ((k : Nat) : Int), fun v _ => v = .pointer (some ⟨g_1, k * 2, none⟩), fun v _ => v = .pointer (some ⟨g_1, k * 2, none⟩), fun v _ => v = .slice (some ⟨(q.getD k qe0).b, (q.getD k qe0).off, none⟩) ((q.getD k qe0).xs.length) ((q.getD k qe0).c), fun v _ => v = .pointer (some ⟨(q.getD k qe0).b, (q.getD k qe0).off, none⟩), fun v _ => v = .pointer (some ⟨(q.getD k qe0).b, (q.getD k qe0).off, none⟩), fun v _ => v = .int .i64 (((q.getD k qe0).xs.getD 0 itm0).at_), fun v _ => v = .int .i64 (((q.getD i qe0).xs.getD 0 itm0).at_)] := ⟨fun _ _ _ _ h => h, ⟨fun _ _ _ _ h => h, ⟨fun _ _ _ _ h => h, ⟨fun _ _ _ _ h => h, ⟨fun _ _ _ _ h => h, ⟨fun _ _ _ _ h => h, ⟨fun _ _ _ _ h => h, ⟨fun _ _ _ _ h => h, ⟨fun _ _ _ _ h => h, ⟨fun _ _ _ _ h => h, ⟨fun _ _ _ _ h => h, ⟨fun _ _ _ _ h => h, ⟨fun _ _ _ _ h => h, ⟨fun _ _ _ _ h => h, ⟨fun _ _ _ _ h => h, ⟨fun _ _ _ _ h => h, ⟨fun _ _ _ _ h => h, trivial⟩⟩⟩⟩⟩⟩⟩⟩⟩⟩⟩⟩⟩⟩⟩⟩⟩
  refine CW.draw 17 (FW [fun v _ => v = .slice a ((q).length) c, fun v _ => v = .int .i64 ((i : Nat) : Int), fun v _ => v = .pointer (some ⟨g_1, i * 2, none⟩), fun v _ => v = .pointer (some ⟨g_1, i * 2, none⟩), fun v _ => v = .slice (some ⟨(q.getD i qe0).b, (q.getD i qe0).off, none⟩) ((q.getD i qe0).xs.length) ((q.getD i qe0).c), fun v _ => v = .pointer (some ⟨(q.getD i qe0).b, (q.getD i qe0).off, none⟩), fun v _ => v = .pointer (some ⟨(q.getD i qe0).b, (q.getD i qe0).off, none⟩), fun v _ => v = .int .i64 (((q.getD i qe0).xs.getD 0 itm0).at_), fun v _ => v = .slice a ((q).length) c, fun v _ => v = .int .i64 ((k : Nat) : Int), fun v _ => v = .pointer (some ⟨g_1, k * 2, none⟩), fun v _ => v = .pointer (some ⟨g_1, k * 2, none⟩), fun v _ => v = .slice (some ⟨(q.getD k qe0).b, (q.getD k qe0).off, none⟩) ((q.getD k qe0).xs.length) ((q.getD k qe0).c), fun v _ => v = .pointer (some ⟨(q.getD k qe0).b, (q.getD k qe0).off, none⟩), fun v _ => v = .pointer (some ⟨(q.getD k qe0).b, (q.getD k qe0).off, none⟩), fun v _ => v = .int .i64 (((q.getD k qe0).xs.getD 0 itm0).at_), fun v _ => v = .int .i64 (((q.getD i qe0).xs.getD 0 itm0).at_)]) (fun W => Gr w W) (by kernel_rfl) (by kernel_rfl) (by kernel_rfl) (by kernel_rfl) (by kernel_rfl) (Gr.refl _).drew ?_ ?_
  · refine ⟨?_, ⟨?_, ⟨?_, ⟨?_, ⟨?_, ⟨?_, ⟨?_, ⟨?_, ⟨?_, ⟨?_, ⟨?_, ⟨?_, ⟨?_, ⟨?_, ⟨?_, ⟨?_, ⟨?_, trivial⟩⟩⟩⟩⟩⟩⟩⟩⟩⟩⟩⟩⟩⟩⟩⟩⟩
    · intro L ys W hB hF hP K hK
      show OpE _ _ _ W K
      exact OpE.val (.slice a ((q).length) c) W (by kernel_rfl) (hK _ W hB rfl (fun _ _ h => h))
    · intro L ys W hB hF hP K hK
      show OpE _ _ _ W K
      exact OpE.val (.int .i64 ((i : Nat) : Int)) W (by kernel_rfl) (hK _ W hB rfl (fun _ _ h => h))
    · intro L ys W hB hF hP K hK
      show OpE _ _ _ W K
      exact OpE.known (j := 0) (v := .slice a ((q).length) c) (hF 0 (hP.1 rfl)) (OpE.known (j := 1) (v := .int .i64 ((i : Nat) : Int)) (hF 1 (hP.2.1 rfl)) (OpE.val (.pointer (some ⟨g_1, i * 2, none⟩)) W (run_ixR (len := (q).length) (cap := c) (q := .i64) (I := ((i : Nat) : Int)) (i := i) (size := 2) ha_2 rfl (by kernel_rfl) (by kernel_rfl) rfl (by kernel_rfl) (by kernel_rfl) (by omega)) (hK _ W hB rfl (fun _ _ h => h))))
    · intro L ys W hB hF hP K hK
      show OpE _ _ _ W K
      exact OpE.known (j := 2) (v := .pointer (some ⟨g_1, i * 2, none⟩)) (hF 2 (hP.1 rfl)) (OpE.val (.pointer (some ⟨g_1, i * 2, none⟩)) W (by kernel_rfl) (hK _ W hB rfl (fun _ _ h => h)))
    · intro L ys W hB hF hP K hK
      show OpE _ _ _ W K
      exact OpE.known (j := 3) (v := .pointer (some ⟨g_1, i * 2, none⟩)) (hF 3 (hP.1 rfl)) (OpE.load (g := g_1) (off := i * 2) (v := .slice (some ⟨(q.getD i qe0).b, (q.getD i qe0).off, none⟩) ((q.getD i qe0).xs.length) ((q.getD i qe0).c)) rfl (by kernel_rfl) ((hs0.grow hB).row_blk (i := 0) ha_2 rfl) (ldV_one (by kernel_rfl) (by kernel_rfl) ((hs0.grow hB).row_one (i := 0) ha_2 rfl (qcells_get (i := i) (j := 0) (by omega) rfl))) (hK _ W hB rfl (fun _ _ h => h)))
    · intro L ys W hB hF hP K hK
      show OpE _ _ _ W K
      exact OpE.known (j := 4) (v := .slice (some ⟨(q.getD i qe0).b, (q.getD i qe0).off, none⟩) ((q.getD i qe0).xs.length) ((q.getD i qe0).c)) (hF 4 (hP.1 rfl)) (OpE.val (.pointer (some ⟨(q.getD i qe0).b, (q.getD i qe0).off, none⟩)) W ((run_ix (len := (q.getD i qe0).xs.length) (cap := (q.getD i qe0).c) (q := .i64) (I := 0) (g := (q.getD i qe0).b) (off := (q.getD i qe0).off) (i := 0) (size := 9) rfl (by kernel_rfl) (by kernel_rfl) rfl (by kernel_rfl) (by kernel_rfl) (by omega)).trans (by rw [show (q.getD i qe0).off + 0 * 9 = (q.getD i qe0).off from by omega])) (hK _ W hB rfl (fun _ _ h => h)))
    · intro L ys W hB hF hP K hK
      show OpE _ _ _ W K
      exact OpE.known (j := 5) (v := .pointer (some ⟨(q.getD i qe0).b, (q.getD i qe0).off, none⟩)) (hF 5 (hP.1 rfl)) (OpE.val (.pointer (some ⟨(q.getD i qe0).b, (q.getD i qe0).off, none⟩)) W (by kernel_rfl) (hK _ W hB rfl (fun _ _ h => h)))
    · intro L ys W hB hF hP K hK
      show OpE _ _ _ W K
      exact OpE.known (j := 6) (v := .pointer (some ⟨(q.getD i qe0).b, (q.getD i qe0).off, none⟩)) (hF 6 (hP.1 rfl)) (OpE.load (g := (q.getD i qe0).b) (off := (q.getD i qe0).off) (v := .int .i64 (((q.getD i qe0).xs.getD 0 itm0).at_)) rfl (by kernel_rfl) ((hMU _ (hs0.grow hB).upd) _ hSi).2.blk (ldV_one (by kernel_rfl) (by kernel_rfl) (((hMU _ (hs0.grow hB).upd) _ hSi).2.one ((hMU _ (hs0.grow hB).upd) _ hSi).1 (j := 0) rfl)) (hK _ W hB rfl (fun _ _ h => h)))
    · intro L ys W hB hF hP K hK
      show OpE _ _ _ W K
      exact OpE.val (.slice a ((q).length) c) W (by kernel_rfl) (hK _ W hB rfl (fun _ _ h => h))
    · intro L ys W hB hF hP K hK
      show OpE _ _ _ W K
      exact OpE.val (.int .i64 ((k : Nat) : Int)) W (by kernel_rfl) (hK _ W hB rfl (fun _ _ h => h))
    · intro L ys W hB hF hP K hK
      show OpE _ _ _ W K
      exact OpE.known (j := 8) (v := .slice a ((q).length) c) (hF 8 (hP.1 rfl)) (OpE.known (j := 9) (v := .int .i64 ((k : Nat) : Int)) (hF 9 (hP.2.1 rfl)) (OpE.val (.pointer (some ⟨g_1, k * 2, none⟩)) W (run_ixR (len := (q).length) (cap := c) (q := .i64) (I := ((k : Nat) : Int)) (i := k) (size := 2) ha_2 rfl (by kernel_rfl) (by kernel_rfl) rfl (by kernel_rfl) (by kernel_rfl) (by omega)) (hK _ W hB rfl (fun _ _ h => h))))
    · intro L ys W hB hF hP K hK
      show OpE _ _ _ W K
      exact OpE.known (j := 10) (v := .pointer (some ⟨g_1, k * 2, none⟩)) (hF 10 (hP.1 rfl)) (OpE.val (.pointer (some ⟨g_1, k * 2, none⟩)) W (by kernel_rfl) (hK _ W hB rfl (fun _ _ h => h)))
    · intro L ys W hB hF hP K hK
      show OpE _ _ _ W K
      exact OpE.known (j := 11) (v := .pointer (some ⟨g_1, k * 2, none⟩)) (hF 11 (hP.1 rfl)) (OpE.load (g := g_1) (off := k * 2) (v := .slice (some ⟨(q.getD k qe0).b, (q.getD k qe0).off, none⟩) ((q.getD k qe0).xs.length) ((q.getD k qe0).c)) rfl (by kernel_rfl) ((hs0.grow hB).row_blk (i := 0) ha_2 rfl) (ldV_one (by kernel_rfl) (by kernel_rfl) ((hs0.grow hB).row_one (i := 0) ha_2 rfl (qcells_get (i := k) (j := 0) (by omega) rfl))) (hK _ W hB rfl (fun _ _ h => h)))
    · intro L ys W hB hF hP K hK
      show OpE _ _ _ W K
      exact OpE.known (j := 12) (v := .slice (some ⟨(q.getD k qe0).b, (q.getD k qe0).off, none⟩) ((q.getD k qe0).xs.length) ((q.getD k qe0).c)) (hF 12 (hP.1 rfl)) (OpE.val (.pointer (some ⟨(q.getD k qe0).b, (q.getD k qe0).off, none⟩)) W ((run_ix (len := (q.getD k qe0).xs.length) (cap := (q.getD k qe0).c) (q := .i64) (I := 0) (g := (q.getD k qe0).b) (off := (q.getD k qe0).off) (i := 0) (size := 9) rfl (by kernel_rfl) (by kernel_rfl) rfl (by kernel_rfl) (by kernel_rfl) (by omega)).trans (by rw [show (q.getD k qe0).off + 0 * 9 = (q.getD k qe0).off from by omega])) (hK _ W hB rfl (fun _ _ h => h)))
    · intro L ys W hB hF hP K hK
      show OpE _ _ _ W K
      exact OpE.known (j := 13) (v := .pointer (some ⟨(q.getD k qe0).b, (q.getD k qe0).off, none⟩)) (hF 13 (hP.1 rfl)) (OpE.val (.pointer (some ⟨(q.getD k qe0).b, (q.getD k qe0).off, none⟩)) W (by kernel_rfl) (hK _ W hB rfl (fun _ _ h => h)))
    · intro L ys W hB hF hP K hK
      show OpE _ _ _ W K
      exact OpE.known (j := 14) (v := .pointer (some ⟨(q.getD k qe0).b, (q.getD k qe0).off, none⟩)) (hF 14 (hP.1 rfl)) (OpE.load (g := (q.getD k qe0).b) (off := (q.getD k qe0).off) (v := .int .i64 (((q.getD k qe0).xs.getD 0 itm0).at_)) rfl (by kernel_rfl) ((hMU _ (hs0.grow hB).upd) _ hSk).2.blk (ldV_one (by kernel_rfl) (by kernel_rfl) (((hMU _ (hs0.grow hB).upd) _ hSk).2.one ((hMU _ (hs0.grow hB).upd) _ hSk).1 (j := 0) rfl)) (hK _ W hB rfl (fun _ _ h => h)))
    · intro L ys W hB hF hP K hK
      show OpE _ _ _ W K
      exact OpE.known (j := 7) (v := .int .i64 (((q.getD i qe0).xs.getD 0 itm0).at_)) (hF 7 (hP.2.2.2.2.2.2.2.2.1 rfl)) (OpE.val (.int .i64 (((q.getD i qe0).xs.getD 0 itm0).at_)) W (by kernel_rfl) (hK _ W hB rfl (fun _ _ h => h)))
  · intro ys_6 w_3 hs_4 hF_5
    have hg_7 := hs_4
    have hs_4 : SH U w w_3 [rowH 55 2 a (q).length c (qcells q)] := hs0.grow hg_7
    refine SL.knownY (j := 15) (v := .int .i64 (((q.getD k qe0).xs.getD 0 itm0).at_)) (show ys_6 15 = .int .i64 (((q.getD k qe0).xs.getD 0 itm0).at_) from hF_5 15 (by decide)) (SL.knownY (j := 16) (v := .int .i64 (((q.getD i qe0).xs.getD 0 itm0).at_)) (show ys_6 16 = .int .i64 (((q.getD i qe0).xs.getD 0 itm0).at_) from hF_5 16 (by decide)) (?_))
    clear hF_5 HGR
    refine SL.v (.int .i64 (((q.getD k qe0).xs.getD 0 itm0).at_)) ?_
    refine SL.nil ?_
    refine CW.seq ?_
    rcases Bool.eq_false_or_eq_true (decide ((((q.getD i qe0).xs.getD 0 itm0).at_) < (((q.getD k qe0).xs.getD 0 itm0).at_))) with hb_8 | hb_8
    · try rw [hb_8]
      have hqhb_8 := of_decide_eq_true hb_8
      have HGR : GrL [fun v _ => v = .int .i64 (((q.getD i qe0).xs.getD 0 itm0).at_), fun v _ => v = .int .i64 (((q.getD k qe0).xs.getD 0 itm0).at_), fun v _ => v = .bool true, fun v _ => v = .bool true, fun v _ => v = undef, fun v _ => v = undef, fun v _ => v = undef, fun v _ => v = undef, fun v _ => v = undef, fun v _ => v = undef, fun v _ => v = undef, fun v _ => v = undef, fun v _ => v = undef, fun v _ => v = undef, fun v _ => v = undef, fun v _ => v = undef, fun v _ => v = undef, fun v _ => v = undef] := ⟨fun _ _ _ _ h => h, ⟨fun _ _ _ _ h => h, ⟨fun _ _ _ _ h => h, ⟨fun _ _ _ _ h => h, ⟨fun _ _ _ _ h => h, ⟨fun _ _ _ _ h => h, ⟨fun _ _ _ _ h => h, ⟨fun _ _ _ _ h => h, ⟨fun _ _ _ _ h => h, ⟨fun _ _ _ _ h => h, ⟨fun _ _ _ _ h => h, ⟨fun _ _ _ _ h => h, ⟨fun _ _ _ _ h => h, ⟨fun _ _ _ _ h => h, ⟨fun _ _ _ _ h => h, ⟨fun _ _ _ _ h => h, ⟨fun _ _ _ _ h => h, ⟨fun _ _ _ _ h => h, trivial⟩⟩⟩⟩⟩⟩⟩⟩⟩⟩⟩⟩⟩⟩⟩⟩⟩⟩
      refine CW.drawV 18 (FW [fun v _ => v = .int .i64 (((q.getD i qe0).xs.getD 0 itm0).at_), fun v _ => v = .int .i64 (((q.getD k qe0).xs.getD 0 itm0).at_), fun v _ => v = .bool true, fun v _ => v = .bool true, fun v _ => v = undef, fun v _ => v = undef, fun v _ => v = undef, fun v _ => v = undef, fun v _ => v = undef, fun v _ => v = undef, fun v _ => v = undef, fun v _ => v = undef, fun v _ => v = undef, fun v _ => v = undef, fun v _ => v = undef, fun v _ => v = undef, fun v _ => v = undef, fun v _ => v = undef]) (fun W => Gr w_3 W) (by kernel_rfl) (by kernel_rfl) (by kernel_rfl) (by kernel_rfl) (by kernel_rfl) (Gr.refl _).drew ?_ ?_
      · refine ⟨?_, ⟨?_, ⟨?_, ⟨?_, ⟨?_, ⟨?_, ⟨?_, ⟨?_, ⟨?_, ⟨?_, ⟨?_, ⟨?_, ⟨?_, ⟨?_, ⟨?_, ⟨?_, ⟨?_, ⟨?_, trivial⟩⟩⟩⟩⟩⟩⟩⟩⟩⟩⟩⟩⟩⟩⟩⟩⟩⟩
        · intro L ys W hB hF hP K hK
          refine .inl ?_
          show OpE _ _ _ W K
          exact OpE.val (.int .i64 (((q.getD i qe0).xs.getD 0 itm0).at_)) W (by kernel_rfl) (hK _ W hB rfl (fun _ _ h => h))
        · intro L ys W hB hF hP K hK
          refine .inl ?_
          show OpE _ _ _ W K
          exact OpE.val (.int .i64 (((q.getD k qe0).xs.getD 0 itm0).at_)) W (by kernel_rfl) (hK _ W hB rfl (fun _ _ h => h))
        · intro L ys W hB hF hP K hK
          refine .inl ?_
          show OpE _ _ _ W K
          exact OpE.known (j := 0) (v := .int .i64 (((q.getD i qe0).xs.getD 0 itm0).at_)) (hF 0 (hP.1 rfl)) (OpE.known (j := 1) (v := .int .i64 (((q.getD k qe0).xs.getD 0 itm0).at_)) (hF 1 (hP.2.1 rfl)) (OpE.val (.bool true) W (run_eqv (by kernel_rfl) (congrArg Value.bool hb_8)) (hK _ W hB rfl (fun _ _ h => h))))
        · intro L ys W hB hF hP K hK
          refine .inl ?_
          show OpE _ _ _ W K
          exact OpE.known (j := 2) (v := .bool true) (hF 2 (hP.1 rfl)) (OpE.val (.bool true) W (by kernel_rfl) (hK _ W hB rfl (fun _ _ h => h)))
        · intro L ys W hB hF hP K hK
          refine .inl ⟨28, true, rfl, (show fillE _ 0 ys _ 28 = _ from (hF 3 (hP.1 rfl))), .inr ⟨rfl, ?_⟩⟩
          exact hK _ W hB rfl (fun _ _ h => h)
        · intro L ys W hB hF hP K hK
          refine .inl ⟨28, true, rfl, (show fillE _ 0 ys _ 28 = _ from (hF 3 (hP.1 rfl))), .inr ⟨rfl, ?_⟩⟩
          exact hK _ W hB rfl (fun _ _ h => h)
        · intro L ys W hB hF hP K hK
          refine .inl ⟨28, true, rfl, (show fillE _ 0 ys _ 28 = _ from (hF 3 (hP.2.2.1 rfl))), .inr ⟨rfl, ?_⟩⟩
          exact hK _ W hB rfl (fun _ _ h => h)
        · intro L ys W hB hF hP K hK
          refine .inl ⟨28, true, rfl, (show fillE _ 0 ys _ 28 = _ from (hF 3 (hP.2.2.1 rfl))), .inr ⟨rfl, ?_⟩⟩
          exact hK _ W hB rfl (fun _ _ h => h)
        · intro L ys W hB hF hP K hK
          exact .inr ⟨7, true, 32, rfl, rfl, (show fillE _ 0 ys _ 32 = undef from (hF 7 (hP.1 rfl))), hK _ W hB rfl (fun _ _ h => h)⟩
        · intro L ys W hB hF hP K hK
          exact .inr ⟨7, true, 32, rfl, rfl, (show fillE _ 0 ys _ 32 = undef from (hF 7 (hP.1 rfl))), hK _ W hB rfl (fun _ _ h => h)⟩
        · intro L ys W hB hF hP K hK
          exact .inr ⟨7, true, 32, rfl, rfl, (show fillE _ 0 ys _ 32 = undef from (hF 7 (hP.2.2.1 rfl))), hK _ W hB rfl (fun _ _ h => h)⟩
        · intro L ys W hB hF hP K hK
          exact .inr ⟨7, true, 32, rfl, rfl, (show fillE _ 0 ys _ 32 = undef from (hF 7 (hP.2.1 rfl))), hK _ W hB rfl (fun _ _ h => h)⟩
        · intro L ys W hB hF hP K hK
          exact .inr ⟨7, true, 32, rfl, rfl, (show fillE _ 0 ys _ 32 = undef from (hF 7 (hP.2.1 rfl))), hK _ W hB rfl (fun _ _ h => h)⟩
        · intro L ys W hB hF hP K hK
          exact .inr ⟨7, true, 32, rfl, rfl, (show fillE _ 0 ys _ 32 = undef from (hF 7 (hP.1 rfl))), hK _ W hB rfl (fun _ _ h => h)⟩
        · intro L ys W hB hF hP K hK
          exact .inr ⟨7, true, 32, rfl, rfl, (show fillE _ 0 ys _ 32 = undef from (hF 7 (hP.1 rfl))), hK _ W hB rfl (fun _ _ h => h)⟩
        · intro L ys W hB hF hP K hK
          exact .inr ⟨7, true, 32, rfl, rfl, (show fillE _ 0 ys _ 32 = undef from (hF 7 (hP.2.2.1 rfl))), hK _ W hB rfl (fun _ _ h => h)⟩
        · intro L ys W hB hF hP K hK
          exact .inr ⟨7, true, 32, rfl, rfl, (show fillE _ 0 ys _ 32 = undef from (hF 7 (hP.2.1 rfl))), hK _ W hB rfl (fun _ _ h => h)⟩
        · intro L ys W hB hF hP K hK
          exact .inr ⟨7, true, 32, rfl, rfl, (show fillE _ 0 ys _ 32 = undef from (hF 7 (hP.2.1 rfl))), hK _ W hB rfl (fun _ _ h => h)⟩
      · intro ys_12 w_9 hs_10 hF_11
        have hg_13 := hs_10
        have hs_10 : SH U w w_9 [rowH 55 2 a (q).length c (qcells q)] := hs_4.grow hg_13
        refine SL.knownY (j := 3) (v := .bool true) (show ys_12 3 = .bool true from hF_11 3 (by decide)) (SL.knownY (j := 7) (v := undef) (show ys_12 7 = undef from hF_11 7 (by decide)) (?_))
        clear hF_11 HGR
        refine SL.un ?_
        refine SL.no true ?_
        refine SL.v (.bool true) ?_
        refine SL.v (.bool true) ?_
        refine SL.nil ?_
        refine CW.ret ?_
        repeat with_reducible first | refine PThen.ret ?_ | refine PBlock.ret ?_
        refine PRet.tmp (t := 6) (v := .bool true) rfl rfl (by kernel_rfl) ?_
        have hv_ : keyLt (q.getD i qe0) (q.getD k qe0) = true := by unfold keyLt QE.at_; rw [hb_8]; rfl
        rw [hv_]
        exact ⟨_, _, rfl, ⟨rfl, rfl⟩, hs_10.pick [0] rfl⟩
    · try rw [hb_8]
      have hqhb_8 := of_decide_eq_false hb_8
      rcases Bool.eq_false_or_eq_true ((((q.getD i qe0).xs.getD 0 itm0).at_) == (((q.getD k qe0).xs.getD 0 itm0).at_)) with hb_14 | hb_14
      · try rw [hb_14]
        have hqhb_14 := eq_of_beq hb_14
        have HGR : GrL [fun v _ => v = .int .i64 (((q.getD i qe0).xs.getD 0 itm0).at_), fun v _ => v = .int .i64 (((q.getD k qe0).xs.getD 0 itm0).at_), fun v _ => v = .bool false, fun v _ => v = .bool false, fun v _ => v = .int .i64 (((q.getD i qe0).xs.getD 0 itm0).at_), fun v _ => v = .int .i64 (((q.getD k qe0).xs.getD 0 itm0).at_), fun v _ => v = .bool true, fun v _ => v = .bool true, fun v _ => v = .slice a ((q).length) c, fun v _ => v = .int .i64 ((i : Nat) : Int), fun v _ => v = .pointer (some ⟨g_1, i * 2, none⟩), fun v _ => v = .pointer (some ⟨g_1, i * 2 + 1, none⟩), fun v _ => v = .int .i64 (((q.getD i qe0).n : Nat) : Int), fun v _ => v = .slice a ((q).length) c, fun v _ => v = .int .i64 ((k : Nat) : Int), fun v _ => v = .pointer (some ⟨g_1, k * 2, none⟩), fun v _ => v = .pointer (some ⟨g_1, k * 2 + 1, none⟩), fun v _ => v = .int .i64 (((q.getD k qe0).n : Nat) : Int)] := ⟨fun _ _ _ _ h => h, ⟨fun _ _ _ _ h => h, ⟨fun _ _ _ _ h => h, ⟨fun _ _ _ _ h => h, ⟨fun _ _ _ _ h => h, ⟨fun _ _ _ _ h => h, ⟨fun _ _ _ _ h => h, ⟨fun _ _ _ _ h => h, ⟨fun _ _ _ _ h => h, ⟨fun _ _ _ _ h => h, ⟨fun _ _ _ _ h => h, ⟨fun _ _ _ _ h => h, ⟨fun _ _ _ _ h => h, ⟨fun _ _ _ _ h => h, ⟨fun _ _ _ _ h => h, ⟨fun _ _ _ _ h => h, ⟨fun _ _ _ _ h => h, ⟨fun _ _ _ _ h => h, trivial⟩⟩⟩⟩⟩⟩⟩⟩⟩⟩⟩⟩⟩⟩⟩⟩⟩⟩
        refine CW.draw 18 (FW [fun v _ => v = .int .i64 (((q.getD i qe0).xs.getD 0 itm0).at_), fun v _ => v = .int .i64 (((q.getD k qe0).xs.getD 0 itm0).at_), fun v _ => v = .bool false, fun v _ => v = .bool false, fun v _ => v = .int .i64 (((q.getD i qe0).xs.getD 0 itm0).at_), fun v _ => v = .int .i64 (((q.getD k qe0).xs.getD 0 itm0).at_), fun v _ => v = .bool true, fun v _ => v = .bool true, fun v _ => v = .slice a ((q).length) c, fun v _ => v = .int .i64 ((i : Nat) : Int), fun v _ => v = .pointer (some ⟨g_1, i * 2, none⟩), fun v _ => v = .pointer (some ⟨g_1, i * 2 + 1, none⟩), fun v _ => v = .int .i64 (((q.getD i qe0).n : Nat) : Int), fun v _ => v = .slice a ((q).length) c, fun v _ => v = .int .i64 ((k : Nat) : Int), fun v _ => v = .pointer (some ⟨g_1, k * 2, none⟩), fun v _ => v = .pointer (some ⟨g_1, k * 2 + 1, none⟩), fun v _ => v = .int .i64 (((q.getD k qe0).n : Nat) : Int)]) (fun W => Gr w_3 W) (by kernel_rfl) (by kernel_rfl) (by kernel_rfl) (by kernel_rfl) (by kernel_rfl) (Gr.refl _).drew ?_ ?_
        · refine ⟨?_, ⟨?_, ⟨?_, ⟨?_, ⟨?_, ⟨?_, ⟨?_, ⟨?_, ⟨?_, ⟨?_, ⟨?_, ⟨?_, ⟨?_, ⟨?_, ⟨?_, ⟨?_, ⟨?_, ⟨?_, trivial⟩⟩⟩⟩⟩⟩⟩⟩⟩⟩⟩⟩⟩⟩⟩⟩⟩⟩
          · intro L ys W hB hF hP K hK
            show OpE _ _ _ W K
            exact OpE.val (.int .i64 (((q.getD i qe0).xs.getD 0 itm0).at_)) W (by kernel_rfl) (hK _ W hB rfl (fun _ _ h => h))
          · intro L ys W hB hF hP K hK
            show OpE _ _ _ W K
            exact OpE.val (.int .i64 (((q.getD k qe0).xs.getD 0 itm0).at_)) W (by kernel_rfl) (hK _ W hB rfl (fun _ _ h => h))
          · intro L ys W hB hF hP K hK
            show OpE _ _ _ W K
            exact OpE.known (j := 0) (v := .int .i64 (((q.getD i qe0).xs.getD 0 itm0).at_)) (hF 0 (hP.1 rfl)) (OpE.known (j := 1) (v := .int .i64 (((q.getD k qe0).xs.getD 0 itm0).at_)) (hF 1 (hP.2.1 rfl)) (OpE.val (.bool false) W (run_eqv (by kernel_rfl) (congrArg Value.bool hb_8)) (hK _ W hB rfl (fun _ _ h => h))))
          · intro L ys W hB hF hP K hK
            show OpE _ _ _ W K
            exact OpE.known (j := 2) (v := .bool false) (hF 2 (hP.1 rfl)) (OpE.val (.bool false) W (by kernel_rfl) (hK _ W hB rfl (fun _ _ h => h)))
          · intro L ys W hB hF hP K hK
            refine ⟨28, false, rfl, (show fillE _ 0 ys _ 28 = _ from (hF 3 (hP.1 rfl))), .inl ⟨rfl, ?_⟩⟩
            exact OpE.val (.int .i64 (((q.getD i qe0).xs.getD 0 itm0).at_)) W (by kernel_rfl) (hK _ W hB rfl (fun _ _ h => h))
          · intro L ys W hB hF hP K hK
            refine ⟨28, false, rfl, (show fillE _ 0 ys _ 28 = _ from (hF 3 (hP.1 rfl))), .inl ⟨rfl, ?_⟩⟩
            exact OpE.val (.int .i64 (((q.getD k qe0).xs.getD 0 itm0).at_)) W (by kernel_rfl) (hK _ W hB rfl (fun _ _ h => h))
          · intro L ys W hB hF hP K hK
            refine ⟨28, false, rfl, (show fillE _ 0 ys _ 28 = _ from (hF 3 (hP.2.2.1 rfl))), .inl ⟨rfl, ?_⟩⟩
            exact OpE.known (j := 4) (v := .int .i64 (((q.getD i qe0).xs.getD 0 itm0).at_)) (hF 4 (hP.1 rfl)) (OpE.known (j := 5) (v := .int .i64 (((q.getD k qe0).xs.getD 0 itm0).at_)) (hF 5 (hP.2.1 rfl)) (OpE.val (.bool true) W (run_eqv (by kernel_rfl) (congrArg Value.bool hb_14)) (hK _ W hB rfl (fun _ _ h => h))))
          · intro L ys W hB hF hP K hK
            refine ⟨28, false, rfl, (show fillE _ 0 ys _ 28 = _ from (hF 3 (hP.2.2.1 rfl))), .inl ⟨rfl, ?_⟩⟩
            exact OpE.known (j := 6) (v := .bool true) (hF 6 (hP.1 rfl)) (OpE.val (.bool true) W (by kernel_rfl) (hK _ W hB rfl (fun _ _ h => h)))
          · intro L ys W hB hF hP K hK
            refine ⟨32, true, rfl, (show fillE _ 0 ys _ 32 = _ from (hF 7 (hP.1 rfl))), .inl ⟨rfl, ?_⟩⟩
            exact OpE.val (.slice a ((q).length) c) W (by kernel_rfl) (hK _ W hB rfl (fun _ _ h => h))
          · intro L ys W hB hF hP K hK
            refine ⟨32, true, rfl, (show fillE _ 0 ys _ 32 = _ from (hF 7 (hP.1 rfl))), .inl ⟨rfl, ?_⟩⟩
            exact OpE.val (.int .i64 ((i : Nat) : Int)) W (by kernel_rfl) (hK _ W hB rfl (fun _ _ h => h))
          · intro L ys W hB hF hP K hK
            refine ⟨32, true, rfl, (show fillE _ 0 ys _ 32 = _ from (hF 7 (hP.2.2.1 rfl))), .inl ⟨rfl, ?_⟩⟩
            exact OpE.known (j := 8) (v := .slice a ((q).length) c) (hF 8 (hP.1 rfl)) (OpE.known (j := 9) (v := .int .i64 ((i : Nat) : Int)) (hF 9 (hP.2.1 rfl)) (OpE.val (.pointer (some ⟨g_1, i * 2, none⟩)) W (run_ixR (len := (q).length) (cap := c) (q := .i64) (I := ((i : Nat) : Int)) (i := i) (size := 2) ha_2 rfl (by kernel_rfl) (by kernel_rfl) rfl (by kernel_rfl) (by kernel_rfl) (by omega)) (hK _ W hB rfl (fun _ _ h => h))))
          · intro L ys W hB hF hP K hK
            refine ⟨32, true, rfl, (show fillE _ 0 ys _ 32 = _ from (hF 7 (hP.2.1 rfl))), .inl ⟨rfl, ?_⟩⟩
            exact OpE.known (j := 10) (v := .pointer (some ⟨g_1, i * 2, none⟩)) (hF 10 (hP.1 rfl)) (OpE.val (.pointer (some ⟨g_1, i * 2 + 1, none⟩)) W (by kernel_rfl) (hK _ W hB rfl (fun _ _ h => h)))
          · intro L ys W hB hF hP K hK
            refine ⟨32, true, rfl, (show fillE _ 0 ys _ 32 = _ from (hF 7 (hP.2.1 rfl))), .inl ⟨rfl, ?_⟩⟩
            exact OpE.known (j := 11) (v := .pointer (some ⟨g_1, i * 2 + 1, none⟩)) (hF 11 (hP.1 rfl)) (OpE.load (g := g_1) (off := i * 2 + 1) (v := .int .i64 (((q.getD i qe0).n : Nat) : Int)) rfl (by kernel_rfl) ((hs_4.grow hB).row_blk (i := 0) ha_2 rfl) (ldV_one (by kernel_rfl) (by kernel_rfl) ((hs_4.grow hB).row_one (i := 0) ha_2 rfl (qcells_get (i := i) (j := 1) (by omega) rfl))) (hK _ W hB rfl (fun _ _ h => h)))
          · intro L ys W hB hF hP K hK
            refine ⟨32, true, rfl, (show fillE _ 0 ys _ 32 = _ from (hF 7 (hP.1 rfl))), .inl ⟨rfl, ?_⟩⟩
            exact OpE.val (.slice a ((q).length) c) W (by kernel_rfl) (hK _ W hB rfl (fun _ _ h => h))
          · intro L ys W hB hF hP K hK
            refine ⟨32, true, rfl, (show fillE _ 0 ys _ 32 = _ from (hF 7 (hP.1 rfl))), .inl ⟨rfl, ?_⟩⟩
            exact OpE.val (.int .i64 ((k : Nat) : Int)) W (by kernel_rfl) (hK _ W hB rfl (fun _ _ h => h))
          · intro L ys W hB hF hP K hK
            refine ⟨32, true, rfl, (show fillE _ 0 ys _ 32 = _ from (hF 7 (hP.2.2.1 rfl))), .inl ⟨rfl, ?_⟩⟩
            exact OpE.known (j := 13) (v := .slice a ((q).length) c) (hF 13 (hP.1 rfl)) (OpE.known (j := 14) (v := .int .i64 ((k : Nat) : Int)) (hF 14 (hP.2.1 rfl)) (OpE.val (.pointer (some ⟨g_1, k * 2, none⟩)) W (run_ixR (len := (q).length) (cap := c) (q := .i64) (I := ((k : Nat) : Int)) (i := k) (size := 2) ha_2 rfl (by kernel_rfl) (by kernel_rfl) rfl (by kernel_rfl) (by kernel_rfl) (by omega)) (hK _ W hB rfl (fun _ _ h => h))))
          · intro L ys W hB hF hP K hK
            refine ⟨32, true, rfl, (show fillE _ 0 ys _ 32 = _ from (hF 7 (hP.2.1 rfl))), .inl ⟨rfl, ?_⟩⟩
            exact OpE.known (j := 15) (v := .pointer (some ⟨g_1, k * 2, none⟩)) (hF 15 (hP.1 rfl)) (OpE.val (.pointer (some ⟨g_1, k * 2 + 1, none⟩)) W (by kernel_rfl) (hK _ W hB rfl (fun _ _ h => h)))
          · intro L ys W hB hF hP K hK
            refine ⟨32, true, rfl, (show fillE _ 0 ys _ 32 = _ from (hF 7 (hP.2.1 rfl))), .inl ⟨rfl, ?_⟩⟩
            exact OpE.known (j := 16) (v := .pointer (some ⟨g_1, k * 2 + 1, none⟩)) (hF 16 (hP.1 rfl)) (OpE.load (g := g_1) (off := k * 2 + 1) (v := .int .i64 (((q.getD k qe0).n : Nat) : Int)) rfl (by kernel_rfl) ((hs_4.grow hB).row_blk (i := 0) ha_2 rfl) (ldV_one (by kernel_rfl) (by kernel_rfl) ((hs_4.grow hB).row_one (i := 0) ha_2 rfl (qcells_get (i := k) (j := 1) (by omega) rfl))) (hK _ W hB rfl (fun _ _ h => h)))
        · intro ys_18 w_15 hs_16 hF_17
          have hg_19 := hs_16
          have hs_16 : SH U w w_15 [rowH 55 2 a (q).length c (qcells q)] := hs_4.grow hg_19
          refine SL.knownY (j := 3) (v := .bool false) (show ys_18 3 = .bool false from hF_17 3 (by decide)) (SL.knownY (j := 7) (v := .bool true) (show ys_18 7 = .bool true from hF_17 7 (by decide)) (SL.knownY (j := 12) (v := .int .i64 (((q.getD i qe0).n : Nat) : Int)) (show ys_18 12 = .int .i64 (((q.getD i qe0).n : Nat) : Int) from hF_17 12 (by decide)) (SL.knownY (j := 17) (v := .int .i64 (((q.getD k qe0).n : Nat) : Int)) (show ys_18 17 = .int .i64 (((q.getD k qe0).n : Nat) : Int) from hF_17 17 (by decide)) (?_))))
          clear hF_17 HGR
          refine SL.go ?_
          refine SL.v (.bool (decide ((((q.getD i qe0).n : Nat) : Int) < (((q.getD k qe0).n : Nat) : Int)))) ?_
          refine SL.go ?_
          refine SL.v (.bool (decide ((((q.getD i qe0).n : Nat) : Int) < (((q.getD k qe0).n : Nat) : Int)))) ?_
          refine SL.v (.bool (decide ((((q.getD i qe0).n : Nat) : Int) < (((q.getD k qe0).n : Nat) : Int)))) ?_
          refine SL.v (.bool (decide ((((q.getD i qe0).n : Nat) : Int) < (((q.getD k qe0).n : Nat) : Int)))) ?_
          refine SL.nil ?_
          refine CW.ret ?_
          repeat with_reducible first | refine PThen.ret ?_ | refine PBlock.ret ?_
          refine PRet.tmp (t := 6) (v := .bool (decide ((((q.getD i qe0).n : Nat) : Int) < (((q.getD k qe0).n : Nat) : Int)))) rfl rfl (by kernel_rfl) ?_
          have hv_ : keyLt (q.getD i qe0) (q.getD k qe0) = decide ((((q.getD i qe0).n : Nat) : Int) < (((q.getD k qe0).n : Nat) : Int)) := by unfold keyLt QE.at_; rw [hb_8, hb_14]; rfl
          rw [hv_]
          exact ⟨_, _, rfl, ⟨rfl, rfl⟩, hs_16.pick [0] rfl⟩
      · try rw [hb_14]
        have hqhb_14 := beq_false_ne hb_14
        have HGR : GrL [fun v _ => v = .int .i64 (((q.getD i qe0).xs.getD 0 itm0).at_), fun v _ => v = .int .i64 (((q.getD k qe0).xs.getD 0 itm0).at_), fun v _ => v = .bool false, fun v _ => v = .bool false, fun v _ => v = .int .i64 (((q.getD i qe0).xs.getD 0 itm0).at_), fun v _ => v = .int .i64 (((q.getD k qe0).xs.getD 0 itm0).at_), fun v _ => v = .bool false, fun v _ => v = .bool false, fun _ _ => True, fun _ _ => True, fun _ _ => True, fun _ _ => True, fun _ _ => True, fun _ _ => True, fun _ _ => True, fun _ _ => True, fun _ _ => True, fun _ _ => True] := ⟨fun _ _ _ _ h => h, ⟨fun _ _ _ _ h => h, ⟨fun _ _ _ _ h => h, ⟨fun _ _ _ _ h => h, ⟨fun _ _ _ _ h => h, ⟨fun _ _ _ _ h => h, ⟨fun _ _ _ _ h => h, ⟨fun _ _ _ _ h => h, ⟨fun _ _ _ _ h => h, ⟨fun _ _ _ _ h => h, ⟨fun _ _ _ _ h => h, ⟨fun _ _ _ _ h => h, ⟨fun _ _ _ _ h => h, ⟨fun _ _ _ _ h => h, ⟨fun _ _ _ _ h => h, ⟨fun _ _ _ _ h => h, ⟨fun _ _ _ _ h => h, ⟨fun _ _ _ _ h => h, trivial⟩⟩⟩⟩⟩⟩⟩⟩⟩⟩⟩⟩⟩⟩⟩⟩⟩⟩
        refine CW.draw 18 (FW [fun v _ => v = .int .i64 (((q.getD i qe0).xs.getD 0 itm0).at_), fun v _ => v = .int .i64 (((q.getD k qe0).xs.getD 0 itm0).at_), fun v _ => v = .bool false, fun v _ => v = .bool false, fun v _ => v = .int .i64 (((q.getD i qe0).xs.getD 0 itm0).at_), fun v _ => v = .int .i64 (((q.getD k qe0).xs.getD 0 itm0).at_), fun v _ => v = .bool false, fun v _ => v = .bool false, fun _ _ => True, fun _ _ => True, fun _ _ => True, fun _ _ => True, fun _ _ => True, fun _ _ => True, fun _ _ => True, fun _ _ => True, fun _ _ => True, fun _ _ => True]) (fun W => Gr w_3 W) (by kernel_rfl) (by kernel_rfl) (by kernel_rfl) (by kernel_rfl) (by kernel_rfl) (Gr.refl _).drew ?_ ?_
        · refine ⟨?_, ⟨?_, ⟨?_, ⟨?_, ⟨?_, ⟨?_, ⟨?_, ⟨?_, ⟨?_, ⟨?_, ⟨?_, ⟨?_, ⟨?_, ⟨?_, ⟨?_, ⟨?_, ⟨?_, ⟨?_, trivial⟩⟩⟩⟩⟩⟩⟩⟩⟩⟩⟩⟩⟩⟩⟩⟩⟩⟩
          · intro L ys W hB hF hP K hK
            show OpE _ _ _ W K
            exact OpE.val (.int .i64 (((q.getD i qe0).xs.getD 0 itm0).at_)) W (by kernel_rfl) (hK _ W hB rfl (fun _ _ h => h))
          · intro L ys W hB hF hP K hK
            show OpE _ _ _ W K
            exact OpE.val (.int .i64 (((q.getD k qe0).xs.getD 0 itm0).at_)) W (by kernel_rfl) (hK _ W hB rfl (fun _ _ h => h))
          · intro L ys W hB hF hP K hK
            show OpE _ _ _ W K
            exact OpE.known (j := 0) (v := .int .i64 (((q.getD i qe0).xs.getD 0 itm0).at_)) (hF 0 (hP.1 rfl)) (OpE.known (j := 1) (v := .int .i64 (((q.getD k qe0).xs.getD 0 itm0).at_)) (hF 1 (hP.2.1 rfl)) (OpE.val (.bool false) W (run_eqv (by kernel_rfl) (congrArg Value.bool hb_8)) (hK _ W hB rfl (fun _ _ h => h))))
          · intro L ys W hB hF hP K hK
            show OpE _ _ _ W K
            exact OpE.known (j := 2) (v := .bool false) (hF 2 (hP.1 rfl)) (OpE.val (.bool false) W (by kernel_rfl) (hK _ W hB rfl (fun _ _ h => h)))
          · intro L ys W hB hF hP K hK
            refine ⟨28, false, rfl, (show fillE _ 0 ys _ 28 = _ from (hF 3 (hP.1 rfl))), .inl ⟨rfl, ?_⟩⟩
            exact OpE.val (.int .i64 (((q.getD i qe0).xs.getD 0 itm0).at_)) W (by kernel_rfl) (hK _ W hB rfl (fun _ _ h => h))
          · intro L ys W hB hF hP K hK
            refine ⟨28, false, rfl, (show fillE _ 0 ys _ 28 = _ from (hF 3 (hP.1 rfl))), .inl ⟨rfl, ?_⟩⟩
            exact OpE.val (.int .i64 (((q.getD k qe0).xs.getD 0 itm0).at_)) W (by kernel_rfl) (hK _ W hB rfl (fun _ _ h => h))
          · intro L ys W hB hF hP K hK
            refine ⟨28, false, rfl, (show fillE _ 0 ys _ 28 = _ from (hF 3 (hP.2.2.1 rfl))), .inl ⟨rfl, ?_⟩⟩
            exact OpE.known (j := 4) (v := .int .i64 (((q.getD i qe0).xs.getD 0 itm0).at_)) (hF 4 (hP.1 rfl)) (OpE.known (j := 5) (v := .int .i64 (((q.getD k qe0).xs.getD 0 itm0).at_)) (hF 5 (hP.2.1 rfl)) (OpE.val (.bool false) W (run_eqv (by kernel_rfl) (congrArg Value.bool hb_14)) (hK _ W hB rfl (fun _ _ h => h))))
          · intro L ys W hB hF hP K hK
            refine ⟨28, false, rfl, (show fillE _ 0 ys _ 28 = _ from (hF 3 (hP.2.2.1 rfl))), .inl ⟨rfl, ?_⟩⟩
            exact OpE.known (j := 6) (v := .bool false) (hF 6 (hP.1 rfl)) (OpE.val (.bool false) W (by kernel_rfl) (hK _ W hB rfl (fun _ _ h => h)))
          · intro L ys W hB hF hP K hK
            refine ⟨32, false, rfl, (show fillE _ 0 ys _ 32 = _ from (hF 7 (hP.1 rfl))), .inr ⟨rfl, ?_⟩⟩
            exact hK _ W hB trivial (fun _ _ h => h)
          · intro L ys W hB hF hP K hK
            refine ⟨32, false, rfl, (show fillE _ 0 ys _ 32 = _ from (hF 7 (hP.1 rfl))), .inr ⟨rfl, ?_⟩⟩
            exact hK _ W hB trivial (fun _ _ h => h)
          · intro L ys W hB hF hP K hK
            refine ⟨32, false, rfl, (show fillE _ 0 ys _ 32 = _ from (hF 7 (hP.2.2.1 rfl))), .inr ⟨rfl, ?_⟩⟩
            exact hK _ W hB trivial (fun _ _ h => h)
          · intro L ys W hB hF hP K hK
            refine ⟨32, false, rfl, (show fillE _ 0 ys _ 32 = _ from (hF 7 (hP.2.1 rfl))), .inr ⟨rfl, ?_⟩⟩
            exact hK _ W hB trivial (fun _ _ h => h)
          · intro L ys W hB hF hP K hK
            refine ⟨32, false, rfl, (show fillE _ 0 ys _ 32 = _ from (hF 7 (hP.2.1 rfl))), .inr ⟨rfl, ?_⟩⟩
            exact hK _ W hB trivial (fun _ _ h => h)
          · intro L ys W hB hF hP K hK
            refine ⟨32, false, rfl, (show fillE _ 0 ys _ 32 = _ from (hF 7 (hP.1 rfl))), .inr ⟨rfl, ?_⟩⟩
            exact hK _ W hB trivial (fun _ _ h => h)
          · intro L ys W hB hF hP K hK
            refine ⟨32, false, rfl, (show fillE _ 0 ys _ 32 = _ from (hF 7 (hP.1 rfl))), .inr ⟨rfl, ?_⟩⟩
            exact hK _ W hB trivial (fun _ _ h => h)
          · intro L ys W hB hF hP K hK
            refine ⟨32, false, rfl, (show fillE _ 0 ys _ 32 = _ from (hF 7 (hP.2.2.1 rfl))), .inr ⟨rfl, ?_⟩⟩
            exact hK _ W hB trivial (fun _ _ h => h)
          · intro L ys W hB hF hP K hK
            refine ⟨32, false, rfl, (show fillE _ 0 ys _ 32 = _ from (hF 7 (hP.2.1 rfl))), .inr ⟨rfl, ?_⟩⟩
            exact hK _ W hB trivial (fun _ _ h => h)
          · intro L ys W hB hF hP K hK
            refine ⟨32, false, rfl, (show fillE _ 0 ys _ 32 = _ from (hF 7 (hP.2.1 rfl))), .inr ⟨rfl, ?_⟩⟩
            exact hK _ W hB trivial (fun _ _ h => h)
        · intro ys_23 w_20 hs_21 hF_22
          have hg_24 := hs_21
          have hs_21 : SH U w w_20 [rowH 55 2 a (q).length c (qcells q)] := hs_4.grow hg_24
          refine SL.knownY (j := 3) (v := .bool false) (show ys_23 3 = .bool false from hF_22 3 (by decide)) (SL.knownY (j := 7) (v := .bool false) (show ys_23 7 = .bool false from hF_22 7 (by decide)) (?_))
          clear hF_22 HGR
          refine SL.no false ?_
          refine SL.go ?_
          refine SL.v (.bool false) ?_
          refine SL.v (.bool false) ?_
          refine SL.v (.bool false) ?_
          refine SL.nil ?_
          refine CW.ret ?_
          repeat with_reducible first | refine PThen.ret ?_ | refine PBlock.ret ?_
          refine PRet.tmp (t := 6) (v := .bool false) rfl rfl (by kernel_rfl) ?_
          have hv_ : keyLt (q.getD i qe0) (q.getD k qe0) = false := by unfold keyLt QE.at_; rw [hb_8, hb_14]; rfl
          rw [hv_]
          exact ⟨_, _, rfl, ⟨rfl, rfl⟩, hs_21.pick [0] rfl⟩
set_option maxRecDepth 100000 in
set_option maxHeartbeats 4000000 in
theorem swap_pt (g c : Nat) (pad : List Value) (q : List QE) (i k : Nat) (w : World) (hi : i < q.length) (hk : k < q.length) : Tr Try.prog 42 #[.slice (some ⟨g, 0, none⟩) q.length c, .int .i64 ((i : Nat) : Int), .int .i64 ((k : Nat) : Int)] w [pt g ⟨qcells q ++ pad⟩ 55] (fun v Q => v = .tuple #[] ∧ Q = [pt g ⟨qcells (swapL q i k) ++ pad⟩ 55]) := by
  refine Tr.of fun U hs0 => ?_
  refine calls_sx (n := 20) (args := [.slice (some ⟨g, 0, none⟩) q.length c, .int .i64 ((i : Nat) : Int), .int .i64 ((k : Nat) : Int)]) Try.func42 rfl rfl rfl ?_
  obtain ⟨fj_1, hpj_2, hfr_3⟩ := hs0.frame (Pre := [pt g ⟨qcells q ++ pad⟩ 55]) (Rest := []) [0] rfl
  have HGR : GrL [fun v _ => v = .slice (some ⟨g, 0, none⟩) q.length c, fun v _ => v = .int .i64 ((i : Nat) : Int), fun v _ => v = .slice (some ⟨g, 0, none⟩) q.length c, fun v _ => v = .int .i64 ((k : Nat) : Int), fun v _ => v = .slice (some ⟨g, 0, none⟩) q.length c, fun v _ => v = .int .i64 ((k : Nat) : Int), fun v _ => v = .pointer (some ⟨g, k * 2, none⟩), fun v _ => v = .agg #[.slice (some ⟨(q.getD k qe0).b, (q.getD k qe0).off, none⟩) ((q.getD k qe0).xs.length) ((q.getD k qe0).c), .int .i64 (((q.getD k qe0).n : Nat) : Int)], fun v _ => v = .slice (some ⟨g, 0, none⟩) q.length c, fun v _ => v = .int .i64 ((i : Nat) : Int), fun v _ => v = .pointer (some ⟨g, i * 2, none⟩), fun v _ => v = .agg #[.slice (some ⟨(q.getD i qe0).b, (q.getD i qe0).off, none⟩) ((q.getD i qe0).xs.length) ((q.getD i qe0).c), .int .i64 (((q.getD i qe0).n : Nat) : Int)], fun v _ => v = .pointer (some ⟨g, i * 2, none⟩), fun _ _ => True] := ⟨fun _ _ _ _ h => h, ⟨fun _ _ _ _ h => h, ⟨fun _ _ _ _ h => h, ⟨fun _ _ _ _ h => h, ⟨fun _ _ _ _ h => h, ⟨fun _ _ _ _ h => h, ⟨fun _ _ _ _ h => h, ⟨fun _ _ _ _ h => h, ⟨fun _ _ _ _ h => h, ⟨fun _ _ _ _ h => h, ⟨fun _ _ _ _ h => h, ⟨fun _ _ _ _ h => h, ⟨fun _ _ _ _ h => h, ⟨fun _ _ _ _ h => h, trivial⟩⟩⟩⟩⟩⟩⟩⟩⟩⟩⟩⟩⟩⟩
  have HPU : PureL [fun v _ => v = .slice (some ⟨g, 0, none⟩) q.length c, fun v _ => v = .int .i64 ((i : Nat) : Int), fun v _ => v = .slice (some ⟨g, 0, none⟩) q.length c, fun v _ => v = .int .i64 ((k : Nat) : Int), fun v _ => v = .slice (some ⟨g, 0, none⟩) q.length c, fun v _ => v = .int .i64 ((k : Nat) : Int), fun v _ => v = .pointer (some ⟨g, k * 2, none⟩), fun v _ => v = .agg #[.slice (some ⟨(q.getD k qe0).b, (q.getD k qe0).off, none⟩) ((q.getD k qe0).xs.length) ((q.getD k qe0).c), .int .i64 (((q.getD k qe0).n : Nat) : Int)], fun v _ => v = .slice (some ⟨g, 0, none⟩) q.length c, fun v _ => v = .int .i64 ((i : Nat) : Int), fun v _ => v = .pointer (some ⟨g, i * 2, none⟩), fun v _ => v = .agg #[.slice (some ⟨(q.getD i qe0).b, (q.getD i qe0).off, none⟩) ((q.getD i qe0).xs.length) ((q.getD i qe0).c), .int .i64 (((q.getD i qe0).n : Nat) : Int)], fun v _ => v = .pointer (some ⟨g, i * 2, none⟩), fun _ _ => True] := ⟨fun _ _ _ h => h, ⟨fun _ _ _ h => h, ⟨fun _ _ _ h => h, ⟨fun _ _ _ h => h, ⟨fun _ _ _ h => h, ⟨fun _ _ _ h => h, ⟨fun _ _ _ h => h, ⟨fun _ _ _ h => h, ⟨fun _ _ _ h => h, ⟨fun _ _ _ h => h, ⟨fun _ _ _ h => h, ⟨fun _ _ _ h => h, ⟨fun _ _ _ h => h, ⟨fun _ _ _ h => h, trivial⟩⟩⟩⟩⟩⟩⟩⟩⟩⟩⟩⟩⟩⟩
  refine CW.drawG 14 (FW [fun v _ => v = .slice (some ⟨g, 0, none⟩) q.length c, fun v _ => v = .int .i64 ((i : Nat) : Int), fun v _ => v = .slice (some ⟨g, 0, none⟩) q.length c, fun v _ => v = .int .i64 ((k : Nat) : Int), fun v _ => v = .slice (some ⟨g, 0, none⟩) q.length c, fun v _ => v = .int .i64 ((k : Nat) : Int), fun v _ => v = .pointer (some ⟨g, k * 2, none⟩), fun v _ => v = .agg #[.slice (some ⟨(q.getD k qe0).b, (q.getD k qe0).off, none⟩) ((q.getD k qe0).xs.length) ((q.getD k qe0).c), .int .i64 (((q.getD k qe0).n : Nat) : Int)], fun v _ => v = .slice (some ⟨g, 0, none⟩) q.length c, fun v _ => v = .int .i64 ((i : Nat) : Int), fun v _ => v = .pointer (some ⟨g, i * 2, none⟩), fun v _ => v = .agg #[.slice (some ⟨(q.getD i qe0).b, (q.getD i qe0).off, none⟩) ((q.getD i qe0).xs.length) ((q.getD i qe0).c), .int .i64 (((q.getD i qe0).n : Nat) : Int)], fun v _ => v = .pointer (some ⟨g, i * 2, none⟩), fun _ _ => True]) (BaseS [13] fj_1 w [[pt g ⟨qcells q ++ pad⟩ 55], [pt g ⟨qcells (q.set i (q.getD k qe0)) ++ pad⟩ 55]]) (by kernel_rfl) (by kernel_rfl) (by kernel_rfl) (by kernel_rfl) (by kernel_rfl) (BaseS.init hpj_2) ?_ ?_
  · refine ⟨?_, ⟨?_, ⟨?_, ⟨?_, ⟨?_, ⟨?_, ⟨?_, ⟨?_, ⟨?_, ⟨?_, ⟨?_, ⟨?_, ⟨?_, ⟨?_, trivial⟩⟩⟩⟩⟩⟩⟩⟩⟩⟩⟩⟩⟩⟩
    · intro L ys W hC hn hB hF hP K hK
      show OpE _ _ _ W K
      exact OpE.val (.slice (some ⟨g, 0, none⟩) q.length c) W (by kernel_rfl) (hK _ W (hB.step (by decide) (Gr.refl W)) rfl (fun _ _ h => h))
    · intro L ys W hC hn hB hF hP K hK
      show OpE _ _ _ W K
      exact OpE.val (.int .i64 ((i : Nat) : Int)) W (by kernel_rfl) (hK _ W (hB.step (by decide) (Gr.refl W)) rfl (fun _ _ h => h))
    · intro L ys W hC hn hB hF hP K hK
      show OpE _ _ _ W K
      exact OpE.val (.slice (some ⟨g, 0, none⟩) q.length c) W (by kernel_rfl) (hK _ W (hB.step (by decide) (Gr.refl W)) rfl (fun _ _ h => h))
    · intro L ys W hC hn hB hF hP K hK
      show OpE _ _ _ W K
      exact OpE.val (.int .i64 ((k : Nat) : Int)) W (by kernel_rfl) (hK _ W (hB.step (by decide) (Gr.refl W)) rfl (fun _ _ h => h))
    · intro L ys W hC hn hB hF hP K hK
      show OpE _ _ _ W K
      exact OpE.val (.slice (some ⟨g, 0, none⟩) q.length c) W (by kernel_rfl) (hK _ W (hB.step (by decide) (Gr.refl W)) rfl (fun _ _ h => h))
    · intro L ys W hC hn hB hF hP K hK
      show OpE _ _ _ W K
      exact OpE.val (.int .i64 ((k : Nat) : Int)) W (by kernel_rfl) (hK _ W (hB.step (by decide) (Gr.refl W)) rfl (fun _ _ h => h))
    · intro L ys W hC hn hB hF hP K hK
      show OpE _ _ _ W K
      exact OpE.known (j := 4) (v := .slice (some ⟨g, 0, none⟩) q.length c) (hF 4 (hP.1 rfl)) (OpE.known (j := 5) (v := .int .i64 ((k : Nat) : Int)) (hF 5 (hP.2.1 rfl)) (OpE.val (.pointer (some ⟨g, k * 2, none⟩)) W ((run_ix (len := q.length) (cap := c) (q := .i64) (I := ((k : Nat) : Int)) (g := g) (off := 0) (i := k) (size := 2) rfl (by kernel_rfl) (by kernel_rfl) rfl (by kernel_rfl) (by kernel_rfl) (by omega)).trans (by rw [Nat.zero_add])) (hK _ W (hB.step (by decide) (Gr.refl W)) rfl (fun _ _ h => h))))
    · intro L ys W hC hn hB hF hP K hK
      show OpE _ _ _ W K
      exact OpE.known (j := 6) (v := .pointer (some ⟨g, k * 2, none⟩)) (hF 6 (hP.1 rfl)) (OpE.load (g := g) (off := k * 2) (v := .agg #[.slice (some ⟨(q.getD k qe0).b, (q.getD k qe0).off, none⟩) ((q.getD k qe0).xs.length) ((q.getD k qe0).c), .int .i64 (((q.getD k qe0).n : Nat) : Int)]) rfl (by kernel_rfl) ((hB.at_ (k := 0) (P := [pt g ⟨qcells q ++ pad⟩ 55]) rfl (by decide) rfl prev_0 (next_at 13 rfl (fun hl => hn (hC _ hl 7 (by decide))))).pt_at (i := 0) rfl) (ldV_row (k := 2) (by kernel_rfl) (by kernel_rfl) (srow_part (qcells_part (l := q) (i := k) (j := 0) (by omega) rfl rfl) rfl) rfl rfl) (hK _ W (hB.step (by decide) (Gr.refl W)) rfl (fun _ _ h => h)))
    · intro L ys W hC hn hB hF hP K hK
      show OpE _ _ _ W K
      exact OpE.val (.slice (some ⟨g, 0, none⟩) q.length c) W (by kernel_rfl) (hK _ W (hB.step (by decide) (Gr.refl W)) rfl (fun _ _ h => h))
    · intro L ys W hC hn hB hF hP K hK
      show OpE _ _ _ W K
      exact OpE.val (.int .i64 ((i : Nat) : Int)) W (by kernel_rfl) (hK _ W (hB.step (by decide) (Gr.refl W)) rfl (fun _ _ h => h))
    · intro L ys W hC hn hB hF hP K hK
      show OpE _ _ _ W K
      exact OpE.known (j := 8) (v := .slice (some ⟨g, 0, none⟩) q.length c) (hF 8 (hP.1 rfl)) (OpE.known (j := 9) (v := .int .i64 ((i : Nat) : Int)) (hF 9 (hP.2.1 rfl)) (OpE.val (.pointer (some ⟨g, i * 2, none⟩)) W ((run_ix (len := q.length) (cap := c) (q := .i64) (I := ((i : Nat) : Int)) (g := g) (off := 0) (i := i) (size := 2) rfl (by kernel_rfl) (by kernel_rfl) rfl (by kernel_rfl) (by kernel_rfl) (by omega)).trans (by rw [Nat.zero_add])) (hK _ W (hB.step (by decide) (Gr.refl W)) rfl (fun _ _ h => h))))
    · intro L ys W hC hn hB hF hP K hK
      show OpE _ _ _ W K
      exact OpE.known (j := 10) (v := .pointer (some ⟨g, i * 2, none⟩)) (hF 10 (hP.1 rfl)) (OpE.load (g := g) (off := i * 2) (v := .agg #[.slice (some ⟨(q.getD i qe0).b, (q.getD i qe0).off, none⟩) ((q.getD i qe0).xs.length) ((q.getD i qe0).c), .int .i64 (((q.getD i qe0).n : Nat) : Int)]) rfl (by kernel_rfl) ((hB.at_ (k := 0) (P := [pt g ⟨qcells q ++ pad⟩ 55]) rfl (by decide) rfl prev_0 (next_at 13 rfl (fun hl => hn (hC _ hl 11 (by decide))))).pt_at (i := 0) rfl) (ldV_row (k := 2) (by kernel_rfl) (by kernel_rfl) (srow_part (qcells_part (l := q) (i := i) (j := 0) (by omega) rfl rfl) rfl) rfl rfl) (hK _ W (hB.step (by decide) (Gr.refl W)) rfl (fun _ _ h => h)))
    · intro L ys W hC hn hB hF hP K hK
      show OpE _ _ _ W K
      exact OpE.known (j := 0) (v := .slice (some ⟨g, 0, none⟩) q.length c) (hF 0 (hP.2.2.1 rfl)) (OpE.known (j := 1) (v := .int .i64 ((i : Nat) : Int)) (hF 1 (hP.2.2.2.1 rfl)) (OpE.val (.pointer (some ⟨g, i * 2, none⟩)) W ((run_ix (len := q.length) (cap := c) (q := .i64) (I := ((i : Nat) : Int)) (g := g) (off := 0) (i := i) (size := 2) rfl (by kernel_rfl) (by kernel_rfl) rfl (by kernel_rfl) (by kernel_rfl) (by omega)).trans (by rw [Nat.zero_add])) (hK _ W (hB.step (by decide) (Gr.refl W)) rfl (fun _ _ h => h))))
    · intro L ys W hC hn hB hF hP K hK
      show OpE _ _ _ W K
      have hst := hB.at_ (k := 0) (P := [pt g ⟨qcells q ++ pad⟩ 55]) rfl (by decide) rfl prev_0 (next_at 13 rfl hn)
      obtain ⟨hq_, hu_⟩ := hst.setCells (i := 0) (g := g) (C := ⟨qcells q ++ pad⟩) (T := 55) rfl (i * 2) ((.agg #[.slice (some ⟨(q.getD k qe0).b, (q.getD k qe0).off, none⟩) ((q.getD k qe0).xs.length) ((q.getD k qe0).c), .int .i64 (((q.getD k qe0).n : Nat) : Int)] : Value).cells.toList)
      have hset_ : (([pt g ⟨qcells q ++ pad⟩ 55] : List HA).set 0 (pt g (setL ⟨qcells q ++ pad⟩ (i * 2) ((.agg #[.slice (some ⟨(q.getD k qe0).b, (q.getD k qe0).off, none⟩) ((q.getD k qe0).xs.length) ((q.getD k qe0).c), .int .i64 (((q.getD k qe0).n : Nat) : Int)] : Value).cells.toList)) 55)) = [pt g ⟨qcells (q.set i (q.getD k qe0)) ++ pad⟩ 55] := by rw [show setL ⟨qcells q ++ pad⟩ (i * 2) ((.agg #[.slice (some ⟨(q.getD k qe0).b, (q.getD k qe0).off, none⟩) ((q.getD k qe0).xs.length) ((q.getD k qe0).c), .int .i64 (((q.getD k qe0).n : Nat) : Int)] : Value).cells.toList) = ⟨qcells (q.set i (q.getD k qe0)) ++ pad⟩ from (show setL ⟨qcells q ++ pad⟩ (i * 2) [.slice (some ⟨(q.getD k qe0).b, (q.getD k qe0).off, none⟩) ((q.getD k qe0).xs.length) ((q.getD k qe0).c), .int .i64 (((q.getD k qe0).n : Nat) : Int)] = ⟨qcells (q.set i (q.getD k qe0)) ++ pad⟩ from flC_setP (f := qeC) (d := qe0) (k := 2) qeC_len (l := q) (pad := pad) (i := i) (j := 0) (e := (q.getD k qe0)) (vs := [.slice (some ⟨(q.getD k qe0).b, (q.getD k qe0).off, none⟩) ((q.getD k qe0).xs.length) ((q.getD k qe0).c), .int .i64 (((q.getD k qe0).n : Nat) : Int)]) (by (try simp only [List.length_set]); omega) (show 0 + 2 ≤ 2 by decide) rfl)]; rfl
      rw [hset_] at hq_
      exact OpE.known (j := 12) (v := .pointer (some ⟨g, i * 2, none⟩)) (hF 12 (hP.1 rfl)) (OpE.known (j := 7) (v := .agg #[.slice (some ⟨(q.getD k qe0).b, (q.getD k qe0).off, none⟩) ((q.getD k qe0).xs.length) ((q.getD k qe0).c), .int .i64 (((q.getD k qe0).n : Nat) : Int)]) (hF 7 (hP.2.2.2.2.2.2.2.2.2.1 rfl)) (OpE.store (g := g) (off := i * 2) (C := ⟨qcells q ++ pad⟩) (T := 55) (v := .agg #[.slice (some ⟨(q.getD k qe0).b, (q.getD k qe0).off, none⟩) ((q.getD k qe0).xs.length) ((q.getD k qe0).c), .int .i64 (((q.getD k qe0).n : Nat) : Int)]) rfl (by kernel_rfl) (by kernel_rfl) (hst.pt_at (i := 0) rfl) (by kernel_rfl) (by kernel_rfl) (srow_room (f := qeC) (k := 2) qeC_len (l := q) (pad := pad) (i := i) (j := 0) (m := 2) (by (try simp only [List.length_set]); omega) (by decide)) (hK _ _ (hB.done (k := 0) (P := [pt g ⟨qcells q ++ pad⟩ 55]) (P' := [pt g ⟨qcells (q.set i (q.getD k qe0)) ++ pad⟩ 55]) rfl (by decide) rfl rfl rfl prev_0 hn hu_ hq_) trivial (fun _ _ h => FW.pureL HPU h))))
  · intro ys_8 w_4 hb_5 hF_7
    have hst_ := hb_5.at_ (k := 1) (P := [pt g ⟨qcells (q.set i (q.getD k qe0)) ++ pad⟩ 55]) rfl (by decide) rfl (prev_at (k := 0) 13 rfl (by decide)) (next_end rfl)
    have hs_6 : SH U w w_4 [pt g ⟨qcells (q.set i (q.getD k qe0)) ++ pad⟩ 55] := hfr_3 w_4 _ fj_1 hb_5.upd hst_ (fun g hg => .inl hg)
    refine SL.knownY (j := 2) (v := .slice (some ⟨g, 0, none⟩) q.length c) (show ys_8 2 = .slice (some ⟨g, 0, none⟩) q.length c from hF_7 2 (by decide)) (SL.knownY (j := 3) (v := .int .i64 ((k : Nat) : Int)) (show ys_8 3 = .int .i64 ((k : Nat) : Int) from hF_7 3 (by decide)) (SL.knownY (j := 11) (v := .agg #[.slice (some ⟨(q.getD i qe0).b, (q.getD i qe0).off, none⟩) ((q.getD i qe0).xs.length) ((q.getD i qe0).c), .int .i64 (((q.getD i qe0).n : Nat) : Int)]) (show ys_8 11 = .agg #[.slice (some ⟨(q.getD i qe0).b, (q.getD i qe0).off, none⟩) ((q.getD i qe0).xs.length) ((q.getD i qe0).c), .int .i64 (((q.getD i qe0).n : Nat) : Int)] from hF_7 11 (by decide)) (?_)))
    clear hF_7 HGR HPU hst_ hb_5 hfr_3 hpj_2
    refine SL.val (v := .pointer (some ⟨g, k * 2, none⟩)) (w' := w_4) rfl rfl ((run_ix (len := q.length) (cap := c) (q := .i64) (I := ((k : Nat) : Int)) (g := g) (off := 0) (i := k) (size := 2) rfl (by kernel_rfl) (by kernel_rfl) rfl (by kernel_rfl) (by kernel_rfl) (by omega)).trans (by rw [Nat.zero_add])) ?_
    refine SL.storeH (i := 0) (g := g) (off := k * 2) (v := .agg #[.slice (some ⟨(q.getD i qe0).b, (q.getD i qe0).off, none⟩) ((q.getD i qe0).xs.length) ((q.getD i qe0).c), .int .i64 (((q.getD i qe0).n : Nat) : Int)]) (C' := ⟨qcells ((q.set i (q.getD k qe0)).set k (q.getD i qe0)) ++ pad⟩) (L' := [pt g ⟨qcells ((q.set i (q.getD k qe0)).set k (q.getD i qe0)) ++ pad⟩ 55]) hs_6 rfl rfl rfl (by kernel_rfl) (by kernel_rfl) rfl (by kernel_rfl) (by kernel_rfl) (srow_room (f := qeC) (k := 2) qeC_len (l := q.set i (q.getD k qe0)) (pad := pad) (i := k) (j := 0) (m := 2) (by (try simp only [List.length_set]); omega) (by decide)) (show setL ⟨qcells (q.set i (q.getD k qe0)) ++ pad⟩ (k * 2) [.slice (some ⟨(q.getD i qe0).b, (q.getD i qe0).off, none⟩) ((q.getD i qe0).xs.length) ((q.getD i qe0).c), .int .i64 (((q.getD i qe0).n : Nat) : Int)] = ⟨qcells ((q.set i (q.getD k qe0)).set k (q.getD i qe0)) ++ pad⟩ from flC_setP (f := qeC) (d := qe0) (k := 2) qeC_len (l := q.set i (q.getD k qe0)) (pad := pad) (i := k) (j := 0) (e := (q.getD i qe0)) (vs := [.slice (some ⟨(q.getD i qe0).b, (q.getD i qe0).off, none⟩) ((q.getD i qe0).xs.length) ((q.getD i qe0).c), .int .i64 (((q.getD i qe0).n : Nat) : Int)]) (by (try simp only [List.length_set]); omega) (show 0 + 2 ≤ 2 by decide) rfl) rfl (fun w_9 hs_10 => ?_)
    refine SL.nil ?_
    refine PRet.none rfl ?_
    exact ⟨_, _, rfl, ⟨rfl, rfl⟩, hs_10.pick [0] rfl⟩
end Go.Proofs.Ytaelmkkobjdgbaa
