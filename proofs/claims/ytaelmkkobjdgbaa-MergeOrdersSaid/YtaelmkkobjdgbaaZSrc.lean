/-
  Rows of bytes and of numbers, and strings, over this seat's program.
  append onto a row of the call's own, from whatever source: a law over any program.
-/
import Derived.Deep.AppendSrc
import Derived.Deep.Upon
import Derived.Laws.BytesArg
import Derived.RegionTactic
import Derived.Test.YtaelmkkobjdgbaaRows
import Derived.Test.YtaelmkkobjdgbaaZOrd2
import Derived.Test.YtaelmkkobjdgbaaZLw4
namespace Go.Proofs.Ytaelmkkobjdgbaa
set_option linter.unusedSimpArgs false
set_option linter.unusedVariables false
open Go.RowKit

def bcells (l : List Int) : List Value := l.map (Value.int .u8)
def strOf (l : List Int) : ByteArray := ⟨(l.map fun c => UInt8.ofNat c.toNat).toArray⟩

end Go.Proofs.Ytaelmkkobjdgbaa

namespace Go.Proofs.Ytaelmkkobjdgbaa
set_option linter.unusedSimpArgs false
set_option linter.unusedVariables false
open Go.RowKit

/-- Cells stored one behind the other into a block. -/
theorem setCells_row (g : Nat) (e : TypeId) : ∀ (news : List Value) (o : Nat) (w : World) (cur : Array Value), w.heap[g]? = some (.cells cur e (0, 0)) → o + news.length ≤ cur.size →
    (w.setCells g o news).heap[g]? = some (.cells (cur.toList.take o ++ news ++ cur.toList.drop (o + news.length)).toArray e (0, 0)) := by
  intro news
  induction news with
  | nil => intro o w cur hg _; simp [World.setCells, hg]
  | cons v l ih =>
    intro o w cur hg hl
    have h1 : (w.setCell ⟨g, o, none⟩ v).heap[g]? = some (.cells (cur.setIfInBounds o v) e (0, 0)) := blk_set hg o v
    have := ih (o + 1) (w.setCell ⟨g, o, none⟩ v) (cur.setIfInBounds o v) h1 (by simp at hl ⊢; omega)
    simp only [World.setCells, this]
    simp only [List.length_cons] at hl ⊢
    congr 3
    have ho : o < cur.toList.length := by simp; omega
    rw [Array.toList_setIfInBounds, List.take_set, List.drop_set_of_lt (by omega), show o + 1 + l.length = o + (l.length + 1) by omega]
    have hlen : (cur.toList.take o).length = o := by rw [List.length_take]; omega
    rw [List.take_succ_eq_append_getElem ho, List.set_append_right _ _ (by omega), hlen, Nat.sub_self]
    simp
theorem grownBy_setCells (g : Nat) : ∀ (news : List Value) (o : Nat) (w : World), w.grownBy (w.setCells g o news) (some g) := by
  intro news
  induction news with
  | nil => intro o w; exact ⟨rfl, rfl, rfl, Nat.le_refl _, fun _ _ _ => rfl⟩
  | cons v l ih =>
    intro o w
    have h := ih (o + 1) (w.setCell ⟨g, o, none⟩ v)
    refine ⟨by simp only [World.setCells]; rw [h.os]; simp [World.setCell], by simp only [World.setCells]; rw [h.tape]; simp [World.setCell], by simp only [World.setCells]; rw [h.output]; simp [World.setCell], by have := h.size; simpa [World.setCells] using this, fun k hk hne => ?_⟩
    simp only [World.setCells]
    rw [h.block k (by simpa using hk) hne, Below.heap_setCell _ _ _ _ (fun e => hne (by rw [e]))]
section
variable {P : Program} (w : World)
theorem run_append_src_own (base : Nat) (t tx ty e : TypeId) (i : TypeInfo) (z : Value) (size bytes : Nat) (ht : P.underlying t = some (.slice e)) (hi : P.info? e = some i) (hz : i.zero = some z)
    (hsize : i.size = size) (hby : i.bytes = bytes) (hzs : z.cells.size = size) (hsz : 0 < size)
    (v : Value) (n : Nat) (xs : List Value) (hown : w.ownsRow base e size v n xs)
    (x : Value) (m : Nat) (news : List Value) (hs : Src P size tx x m news w)
    (h63 : n + m ≤ maxLen) (hbytes : (n + m) * bytes ≤ 140737488355328) (hbase : base ≤ w.heap.size) :
    ∃ v' w', (Builtin.append_ #[t, tx] ty #[v, x]).run P w = .ok v' w' ∧ w'.ownsRow base e size v' (n + m) (xs ++ news) ∧ w.grownBy w' v.ownBlock ∧
      (v'.ownBlock = v.ownBlock ∨ v'.ownBlock = some w.heap.size) := by
  subst hsize
  subst hby
  have hl := hs.newsLen
  have hsmall : n + m ≤ 9223372036854775807 := by simp only [maxLen] at h63; omega
  have hlen : (xs ++ news).length = (n + m) * i.size := by rw [List.length_append, hown.1, hl, Nat.add_mul]
  have grown : ∀ (old : Nat), old < n + m → ∀ (row : Option Nat),
      (w.drew.alloc (.cells ((xs ++ news).toArray ++ Builtin.zeroCells z.cells (grownCap w (n + m) old e - (n + m))) e)).ownsRow base e i.size
        (.slice (some ⟨w.heap.size, 0, none⟩) (n + m) (grownCap w (n + m) old e)) (n + m) (xs ++ news) ∧
      w.grownBy (w.drew.alloc (.cells ((xs ++ news).toArray ++ Builtin.zeroCells z.cells (grownCap w (n + m) old e - (n + m))) e)) row := by
    intro old ho row
    have hge := grownCap_ge w (n + m) old e
    have hcm : grownCap w (n + m) old e ≤ maxLen := grownCap_le_maxLen w (n + m) old e h63
    refine ⟨⟨hlen, .inr ⟨w.heap.size, _, _, rfl, hbase, heap_alloc_new w.drew _, hge, hcm, ?_, ?_⟩⟩, ⟨rfl, rfl, rfl, by simp, fun k hk _ => heap_alloc_old w.drew _ hk⟩⟩
    · simp only [Array.size_append, List.size_toArray, size_zeroCells, hzs, hlen, ← Nat.add_mul]
      congr 1
      omega
    · simp only [Array.toList_append]
      rw [← hlen]
      exact List.take_left
  rcases hown.2 with ⟨rfl, rfl⟩ | ⟨g, cap, cur, rfl, hbg, hg, hnc, hcm, hcs, htake⟩
  · have hx : xs = [] := List.eq_nil_of_length_eq_zero (by simpa using hown.1)
    subst hx
    by_cases hm : m = 0
    · subst hm
      have hn : news = [] := List.eq_nil_of_length_eq_zero (by simpa using hl)
      subst hn
      exact ⟨.slice none 0 0, w, run_append_nothing w t tx ty e i ht hi none 0 0 (Nat.le_refl _) x hs, World.ownsRow_nil w base e i.size, ⟨rfl, rfl, rfl, Nat.le_refl _, fun _ _ _ => rfl⟩, Or.inl rfl⟩
    · have hr := run_append_grow_src (P := P) w t tx ty e i z ht hi hz none 0 0 [] (run_firstCells_none w.drew i.size 0 0 0) x m news hs (by omega) (by omega) (growslice_fits (by omega) hbytes)
      have hgr := grown 0 (by omega) (Value.ownBlock (.slice none 0 0))
      exact ⟨_, _, hr, hgr.1, hgr.2, Or.inr rfl⟩
  · by_cases hroom : n + m ≤ cap
    · have hfit : n * i.size + news.length ≤ cur.size := by rw [hl, hcs, ← Nat.add_mul]; exact Nat.mul_le_mul_right _ hroom
      have hcell : ∀ j, j < news.length → w.cell? ⟨g, 0 + n * i.size + j, none⟩ = some (cur[n * i.size + j]?.getD undef) := by
        intro j hj
        have hlt : n * i.size + j < cur.size := by omega
        simp [World.cell?, hg, hlt]
      have hr := run_append_room_src (P := P) w t tx ty e i ht hi g 0 n cap x m news hs hroom (fun j hj => by rw [hcell j hj]; rfl) (fun j hj => by simp [World.frozen?, hg])
      rw [Nat.zero_add] at hr
      have hset := setCells_row g e news (n * i.size) w cur hg (by omega)
      have hkb := World.keptBut_setCells g (may := fun _ => True) news (n * i.size) w (fun _ _ => trivial)
      refine ⟨_, _, hr, ⟨hlen, .inr ⟨g, cap, _, rfl, hbg, hset, hroom, hcm, ?_, ?_⟩⟩, grownBy_setCells g news (n * i.size) w, Or.inl rfl⟩
      · simp only [List.size_toArray, List.length_append, List.length_take, List.length_drop, Array.length_toList]
        omega
      · rw [htake, ← hlen]
        exact List.take_left
    · have holds : ∀ j u, xs[j]? = some u → w.cell? ((⟨g, 0, none⟩ : Addr).add j) = some u := hown.cells (g := g) rfl
      have hr := run_append_grow_src (P := P) w t tx ty e i z ht hi hz (some ⟨g, 0, none⟩) n cap xs (run_firstCells_some w.drew i.size n ⟨g, 0, none⟩ n cap xs hown.1 (by simpa using holds)) x m news hs (by omega) (by omega) (growslice_fits (by omega) hbytes)
      have hgr := grown cap (by omega) (Value.ownBlock (.slice (some ⟨g, 0, none⟩) n cap))
      exact ⟨_, _, hr, hgr.1, hgr.2, Or.inr rfl⟩
end

/-- A row of the call's own, from w0 on, that grew. -/
theorem Gr.grown {w0 w w' : World} {base e size n : Nat} {v : Value} {xs : List Value} (hg : Gr w0 w) (hown : w.ownsRow base e size v n xs) (hb : w0.heap.size ≤ base) (h : w.grownBy w' v.ownBlock) : Gr w0 w' :=
  ⟨h.os.trans hg.os, h.tape.trans hg.tape, h.output.trans hg.output, Nat.le_trans hg.size h.size, fun k hk => by
    rw [h.block k (Nat.lt_of_lt_of_le hk hg.size) (fun e => by have := ownsRow_base hown e.symm; omega)]
    exact hg.block k hk⟩

section
variable {P : Program} {ops : Array Oper} {rest : List Oper} {u : Oper} {a : Act} {w w0 : World} {K : Act → World → Prop} {Q : Exit → Act → World → Prop}
end
end Go.Proofs.Ytaelmkkobjdgbaa
